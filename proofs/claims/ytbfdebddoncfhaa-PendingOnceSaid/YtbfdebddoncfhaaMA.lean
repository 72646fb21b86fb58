import Derived.WalkKit
import Derived.KernelRfl
import Derived.Test.YtbfdebddoncfhaaWLast
/-! Sk, part one: frames as association lists, heaps as lists of chunks, the steps of a region. -/
namespace Go.Proofs.Ytbfdebddoncfhaa.Sk
open Go Go.RowKit
set_option linter.unusedVariables false
set_option linter.unusedSimpArgs false

/-! ### frames -/
def look : List (Nat × Value) → Nat → Option Value
  | [], _ => none
  | (i, v) :: r, j => bif Nat.beq i j then some v else look r j

theorem look_cons_eq {d : Nat} {v : Value} {L : List (Nat × Value)} : look ((d, v) :: L) d = some v := by simp [look]
theorem look_cons_ne {d t : Nat} {v : Value} {L : List (Nat × Value)} (h : d ≠ t) : look ((d, v) :: L) t = look L t := by
  have : Nat.beq d t = false := by
    cases hb : Nat.beq d t
    · rfl
    · exact absurd (Nat.eq_of_beq_eq_true hb) h
  simp [look, this]

/-- How many slots a frame has; the blocks of the marks among its deferred calls (one for each range over a function that it went through). -/
structure Shape where
  size : Nat
  marks : List Nat := []
instance (n : Nat) : OfNat Shape n := ⟨⟨n, []⟩⟩
def markD (r : Nat) : Deferred := { target := .collected r, args := #[] }
structure Fr (a : Act) (n : Shape) (L : List (Nat × Value)) : Prop where
  size : a.tmps.size = n.size
  defers : a.defers = n.marks.map markD
  get : ∀ t v, look L t = some v → a.tmps.getD t undef = v

def ev (L : List (Nat × Value)) : Operand → Option Value
  | .tmp t => look L t
  | .const v => some v
  | .global g => some (.pointer (some ⟨g, 0, none⟩))
  | .func f => some (.func (.func f) #[] #[])

section frames
variable {a : Act} {n : Shape} {L : List (Nat × Value)}

theorem Fr.done (h : Fr a n L) (hm : n.marks = []) : a.defers = [] := by rw [h.defers, hm]; rfl
theorem Fr.ev (h : Fr a n L) {x : Operand} {v : Value} (hx : Sk.ev L x = some v) : a.eval x = v := by
  cases x with
  | tmp t => exact h.get t v hx
  | const u => simpa [Sk.ev, Act.eval] using hx
  | global g => simpa [Sk.ev, Act.eval] using hx
  | func f => simpa [Sk.ev, Act.eval] using hx

def evp (L : List (Nat × Value)) : List (Nat × Operand) → Option (List (Nat × Value))
  | [] => some []
  | (i, x) :: r => match Sk.ev L x, evp L r with
    | some v, some vs => some ((i, v) :: vs)
    | _, _ => none
def evs (L : List (Nat × Value)) : List Operand → Option (List Value)
  | [] => some []
  | x :: r => match Sk.ev L x, evs L r with
    | some v, some vs => some (v :: vs)
    | _, _ => none
theorem Fr.evp (h : Fr a n L) : ∀ {xs : List (Nat × Operand)} {vs : List (Nat × Value)}, Sk.evp L xs = some vs → xs.map (fun p => (p.1, a.eval p.2)) = vs
  | [], vs, e => by simp [Sk.evp] at e; simp [e]
  | (i, x) :: r, vs, e => by
    simp only [Sk.evp] at e
    split at e
    · rename_i v us hv hu
      injection e with e
      subst e
      simp only [List.map_cons, h.ev hv, h.evp hu]
    · cases e
theorem Fr.evs (h : Fr a n L) : ∀ {xs : List Operand} {vs : List Value}, Sk.evs L xs = some vs → xs.map a.eval = vs
  | [], vs, e => by simp [Sk.evs] at e; simp [e]
  | x :: r, vs, e => by
    simp only [Sk.evs] at e
    split at e
    · rename_i v us hv hu
      injection e with e
      subst e
      simp only [List.map_cons, h.ev hv, h.evs hu]
    · cases e
theorem Fr.put (h : Fr a n L) {d : Nat} (hd : Nat.blt d n.size = true) (v : Value) : Fr (a.put (some d) v) n ((d, v) :: L) := by
  have hdn : d < n.size := Nat.le_of_ble_eq_true hd
  refine ⟨by simp [Act.put, h.size], h.defers, fun t u hu => ?_⟩
  by_cases e : d = t
  · subst e
    rw [look_cons_eq] at hu
    injection hu with hu
    subst hu
    have : d < a.tmps.size := by rw [h.size]; exact hdn
    simp [Act.put, Array.getD_eq_getD_getElem?, this]
  · rw [look_cons_ne e] at hu
    rw [← h.get t u hu]
    simp [Act.put, Array.getD_eq_getD_getElem?, Array.getElem?_setIfInBounds_ne e]

def Sub : List (Nat × Value) → List (Nat × Value) → Prop
  | [], _ => True
  | p :: r, L => look L p.1 = some p.2 ∧ Sub r L

theorem Sub.get {L' L : List (Nat × Value)} (h : Sub L' L) {t : Nat} {v : Value} (hv : look L' t = some v) : look L t = some v := by
  induction L' with
  | nil => simp [look] at hv
  | cons p r ih =>
    obtain ⟨q, u⟩ := p
    by_cases e : q = t
    · subst e
      rw [look_cons_eq] at hv
      injection hv with hv
      subst hv
      exact h.1
    · rw [look_cons_ne e] at hv
      exact ih h.2 hv

theorem Fr.sub {L' : List (Nat × Value)} (h : Fr a n L) (hs : Sub L' L) : Fr a n L' := ⟨h.size, h.defers, fun t v hv => h.get t v (hs.get hv)⟩

def enumL : Nat → List Value → List (Nat × Value)
  | _, [] => []
  | i, v :: r => (i, v) :: enumL (i + 1) r

theorem look_enumL : ∀ (vs : List Value) (i t : Nat) (v : Value), look (enumL i vs) t = some v → i ≤ t ∧ vs[t - i]? = some v
  | [], i, t, v, h => by simp [enumL, look] at h
  | u :: r, i, t, v, h => by
    simp only [enumL] at h
    by_cases e : i = t
    · subst e
      rw [look_cons_eq] at h
      injection h with h
      subst h
      simp
    · rw [look_cons_ne e] at h
      have := look_enumL r (i + 1) t v h
      refine ⟨by omega, ?_⟩
      have e2 : t - i = (t - (i + 1)) + 1 := by omega
      rw [e2]
      simpa using this.2

theorem fr_start {args : Array Value} {n : Nat} (hs : args.size ≤ n) : Fr { tmps := args ++ Array.replicate (n - args.size) undef, defers := [] } ⟨n, []⟩ (enumL 0 args.toList) := by
  refine ⟨by simp; omega, rfl, fun t v h => ?_⟩
  have := (look_enumL _ _ _ _ h).2
  simp only [Nat.sub_zero] at this
  have hlt : t < args.size := by simpa using (List.getElem?_eq_some_iff.1 this).1
  have h2 : args[t]? = some v := by simpa using this
  simp [Array.getD_eq_getD_getElem?, Array.getElem?_append_left hlt, h2]
end frames

/-! ### heaps -/
abbrev Frag := Nat → Option Obj
inductive Chunk where
  | obj (b : Nat) (o : Obj)
  | pr (φ : Frag → Prop)

def Chunk.holds : Chunk → Frag → Prop
  | .obj b o, f => f = fun i => if i = b then some o else none
  | .pr φ, f => φ f

def join (f g : Frag) : Frag := fun i => match f i with | some o => some o | none => g i
def Apart (f g : Frag) : Prop := ∀ i, f i = none ∨ g i = none
theorem Apart.symm {f g : Frag} (h : Apart f g) : Apart g f := fun i => (h i).symm

/-- The fragment f is made of the chunks C, one apart from the other. -/
inductive Made : List Chunk → Frag → Prop where
  | nil : Made [] (fun _ => none)
  | cons {c : Chunk} {C : List Chunk} {f g : Frag} (hc : c.holds f) (hC : Made C g) (ha : Apart f g) : Made (c :: C) (join f g)

structure Sat (w0 w : World) (C : List Chunk) : Prop where
  os : w.os = w0.os
  tape : w.tape = w0.tape
  output : w.output = w0.output ∧ w0.drawn ≤ w.drawn
  size : w0.heap.size ≤ w.heap.size
  own : ∃ f, Made C f ∧ ∀ i o, f i = some o → w.heap[i]? = some o

section heaps
variable {w0 w w' : World} {C D F : List Chunk} {c d : Chunk} {f g : Frag}

theorem join_none {f g : Frag} {i : Nat} (h : f i = none) : join f g i = g i := by simp [join, h]
theorem join_some {f g : Frag} {i : Nat} {o : Obj} (h : f i = some o) : join f g i = some o := by simp [join, h]
theorem or_assoc (f g h : Frag) : join (join f g) h = join f (join g h) := by
  funext i; simp only [join]; cases f i <;> rfl
theorem or_comm {f g : Frag} (h : Apart f g) : join f g = join g f := by
  funext i
  simp only [join]
  rcases h i with e | e <;> rw [e]
  · cases g i <;> rfl
  · cases f i <;> rfl
theorem join_eq_none {f g : Frag} {i : Nat} : join f g i = none ↔ f i = none ∧ g i = none := by
  simp only [join]
  cases f i <;> simp
theorem apart_or {f g h : Frag} : Apart f (join g h) ↔ Apart f g ∧ Apart f h := by
  constructor
  · intro H
    refine ⟨fun i => ?_, fun i => ?_⟩ <;> rcases H i with e | e
    · exact .inl e
    · exact .inr (join_eq_none.1 e).1
    · exact .inl e
    · exact .inr (join_eq_none.1 e).2
  · rintro ⟨H1, H2⟩ i
    rcases H1 i with e | e
    · exact .inl e
    · rcases H2 i with e2 | e2
      · exact .inl e2
      · exact .inr (join_eq_none.2 ⟨e, e2⟩)
theorem apart_or' {f g h : Frag} : Apart (join g h) f ↔ Apart g f ∧ Apart h f :=
  ⟨fun H => ⟨(apart_or.1 H.symm).1.symm, (apart_or.1 H.symm).2.symm⟩, fun H => (apart_or.2 ⟨H.1.symm, H.2.symm⟩).symm⟩
theorem apart_none {f : Frag} : Apart f (fun _ => none) := fun _ => .inr rfl

theorem made_cons : Made (c :: C) f ↔ ∃ g h, c.holds g ∧ Made C h ∧ Apart g h ∧ f = join g h :=
  ⟨fun h => by cases h with | cons a b d => exact ⟨_, _, a, b, d, rfl⟩, fun ⟨_, _, a, b, d, e⟩ => e ▸ .cons a b d⟩
theorem made_nil : Made [] f ↔ f = fun _ => none := ⟨fun h => by cases h; rfl, fun h => h ▸ .nil⟩
theorem made_one (h : c.holds f) : Made [c] f := by
  have := Made.cons h .nil apart_none
  have e : join f (fun _ => none) = f := by funext i; simp only [join]; cases f i <;> rfl
  rwa [e] at this
theorem made_append : Made (C ++ D) f ↔ ∃ g h, Made C g ∧ Made D h ∧ Apart g h ∧ f = join g h := by
  induction C generalizing f with
  | nil =>
    constructor
    · intro h
      exact ⟨_, f, .nil, h, fun _ => .inl rfl, by funext i; rfl⟩
    · rintro ⟨g, h, hg, hh, _, rfl⟩
      rw [made_nil] at hg
      subst hg
      exact hh
  | cons c C ih =>
    rw [List.cons_append, made_cons]
    constructor
    · rintro ⟨g, h, hg, hh, ha, rfl⟩
      obtain ⟨h1, h2, k1, k2, ka, rfl⟩ := ih.1 hh
      rw [apart_or] at ha
      exact ⟨_, h2, .cons hg k1 ha.1, k2, apart_or'.2 ⟨ha.2, ka⟩, (or_assoc g h1 h2).symm⟩
    · rintro ⟨g, h, hg, hh, ha, rfl⟩
      obtain ⟨g1, g2, k1, k2, ka, rfl⟩ := made_cons.1 hg
      rw [apart_or'] at ha
      exact ⟨g1, _, k1, ih.2 ⟨g2, h, k2, hh, ha.2, rfl⟩, apart_or.2 ⟨ka, ha.1⟩, or_assoc g1 g2 h⟩

theorem made_perm (hp : C.Perm D) : Made C f → Made D f := by
  induction hp generalizing f with
  | nil => exact id
  | cons x _ ih =>
    intro h
    obtain ⟨g, k, hg, hk, ha, rfl⟩ := made_cons.1 h
    exact .cons hg (ih hk) ha
  | swap x y l =>
    intro h
    obtain ⟨g, k, hg, hk, ha, rfl⟩ := made_cons.1 h
    obtain ⟨g2, k2, hg2, hk2, ha2, rfl⟩ := made_cons.1 hk
    rw [apart_or] at ha
    refine made_cons.2 ⟨g2, _, hg2, .cons hg hk2 ha.2, apart_or.2 ⟨ha.1.symm, ha2⟩, ?_⟩
    rw [← or_assoc, or_comm ha.1, or_assoc]
  | trans _ _ ih1 ih2 => exact fun h => ih2 (ih1 h)

theorem Sat.perm (h : Sat w0 w C) (hp : C.Perm D) : Sat w0 w D := by
  obtain ⟨f, hf, hs⟩ := h.own
  exact ⟨h.os, h.tape, h.output, h.size, f, made_perm hp hf, hs⟩

/-- What is not named any more is dropped. -/
theorem Sat.left (h : Sat w0 w (C ++ D)) : Sat w0 w C := by
  obtain ⟨f, hf, hs⟩ := h.own
  obtain ⟨g, k, hg, hk, ha, rfl⟩ := made_append.1 hf
  exact ⟨h.os, h.tape, h.output, h.size, g, hg, fun i o hi => hs i o (join_some hi)⟩
theorem Sat.right (h : Sat w0 w (C ++ D)) : Sat w0 w D := by
  obtain ⟨f, hf, hs⟩ := h.own
  obtain ⟨g, k, hg, hk, ha, rfl⟩ := made_append.1 hf
  refine ⟨h.os, h.tape, h.output, h.size, k, hk, fun i o hi => hs i o ?_⟩
  rcases ha i with e | e
  · rw [join_none e, hi]
  · rw [e] at hi; cases hi
theorem Sat.tail (h : Sat w0 w (c :: C)) : Sat w0 w C := Sat.right (C := [c]) h
theorem Sat.nil (h : Sat w0 w C) : Sat w0 w [] := Sat.left (C := []) (D := C) h

/-- Number i, and the rest. -/
def nth : List Chunk → Nat → Option Chunk
  | [], _ => none
  | c :: _, 0 => some c
  | _ :: C, i + 1 => nth C i
def del : List Chunk → Nat → List Chunk
  | [], _ => []
  | _ :: C, 0 => C
  | c :: C, i + 1 => c :: del C i
def upd : List Chunk → Nat → Chunk → List Chunk
  | [], _, _ => []
  | _ :: C, 0, d => d :: C
  | c :: C, i + 1, d => c :: upd C i d

theorem nth_perm : ∀ (C : List Chunk) (i : Nat) (c : Chunk), nth C i = some c → C.Perm (c :: del C i)
  | [], _, _, h => by simp [nth] at h
  | d :: C, 0, c, h => by simp [nth] at h; subst h; exact .refl _
  | d :: C, i + 1, c, h => by
    have := nth_perm C i c h
    exact (List.Perm.cons d this).trans (List.Perm.swap c d _)
theorem upd_perm : ∀ (C : List Chunk) (i : Nat) (c d : Chunk), nth C i = some c → (d :: del C i).Perm (upd C i d)
  | [], _, _, _, h => by simp [nth] at h
  | e :: C, 0, c, d, h => .refl _
  | e :: C, i + 1, c, d, h => (List.Perm.swap e d _).trans (List.Perm.cons e (upd_perm C i c d h))

theorem Sat.front (i : Nat) (h : Sat w0 w C) (hi : nth C i = some c) : Sat w0 w (c :: del C i) := h.perm (nth_perm C i c hi)
theorem Sat.back {i : Nat} (h : Sat w0 w (d :: del C i)) (hi : nth C i = some c) : Sat w0 w (upd C i d) := h.perm (upd_perm C i c d hi)

theorem del_sub : ∀ (C : List Chunk) (i : Nat), i < C.length → ∃ c, C.Perm (c :: del C i)
  | [], _, h => by simp at h
  | c :: C, 0, _ => ⟨c, .refl _⟩
  | d :: C, i + 1, h => by
    obtain ⟨c, hc⟩ := del_sub C i (by simpa using h)
    exact ⟨c, (List.Perm.cons d hc).trans (List.Perm.swap c d _)⟩
theorem del_ge : ∀ (C : List Chunk) (i : Nat), C.length ≤ i → del C i = C
  | [], _, _ => rfl
  | c :: C, 0, h => by simp at h
  | c :: C, i + 1, h => by simp only [del]; rw [del_ge C i (by simpa using h)]
/-- Number i is dropped. -/
theorem Sat.drop (i : Nat) (h : Sat w0 w C) : Sat w0 w (del C i) := by
  by_cases hi : i < C.length
  · obtain ⟨c, hc⟩ := del_sub C i hi
    exact (h.perm hc).tail
  · rw [del_ge C i (by omega)]; exact h
/-- These first, in this order: each number counts in what is left. -/
def selR : List Chunk → List Nat → List Chunk
  | C, [] => C
  | C, i :: is => match nth C i with
    | some c => c :: selR (del C i) is
    | none => C
theorem selR_perm : ∀ (is : List Nat) (C : List Chunk), C.Perm (selR C is)
  | [], C => .refl _
  | i :: is, C => by
    simp only [selR]
    cases h : nth C i with
    | none => exact .refl _
    | some c => exact (nth_perm C i c h).trans ((selR_perm is _).cons c)
theorem Sat.sel (is : List Nat) (h : Sat w0 w C) : Sat w0 w (selR C is) := h.perm (selR_perm is C)
theorem Sat.of_mem (h : Sat w0 w C) (hm : c ∈ C) : ∃ D, C.Perm (c :: D) ∧ Sat w0 w (c :: D) := by
  obtain ⟨A, B, rfl⟩ := List.append_of_mem hm
  exact ⟨A ++ B, List.perm_middle, h.perm List.perm_middle⟩
theorem Sat.obj {b : Nat} {o : Obj} (h : Sat w0 w (.obj b o :: C)) : w.heap[b]? = some o := by
  obtain ⟨f, hf, hs⟩ := h.own
  obtain ⟨g, k, hg, hk, ha, rfl⟩ := made_cons.1 hf
  refine hs b o ?_
  have : g = _ := hg
  exact join_some (by rw [this]; simp)
theorem Sat.obj_at {i b : Nat} {o : Obj} (h : Sat w0 w C) (hi : nth C i = some (.obj b o)) : w.heap[b]? = some o := (h.front i hi).obj

theorem Sat.ne {b b' : Nat} {o o' : Obj} (h : Sat w0 w (.obj b o :: .obj b' o' :: C)) : b ≠ b' := by
  obtain ⟨f, hf, hs⟩ := h.own
  obtain ⟨g, k, hg, hk, ha, rfl⟩ := made_cons.1 hf
  obtain ⟨g2, k2, hg2, hk2, ha2, rfl⟩ := made_cons.1 hk
  rintro rfl
  have e1 : g = _ := hg
  have e2 : g2 = _ := hg2
  have := ha b
  rw [e1, e2] at this
  simp [join_eq_none] at this

theorem Sat.cell {i b off : Nat} {cs : Array Value} {t : TypeId} {fz : Nat × Nat} {v : Value} (h : Sat w0 w C) (hi : nth C i = some (.obj b (.cells cs t fz))) (hv : cs[off]? = some v) :
    w.cell? ⟨b, off, none⟩ = some v := by
  simp [World.cell?, h.obj_at hi, hv]

def lget : List Value → Nat → Option Value
  | [], _ => none
  | v :: _, 0 => some v
  | _ :: r, i + 1 => lget r i
theorem lget_eq : ∀ (l : List Value) (i : Nat), lget l i = l[i]?
  | [], i => by simp [lget]
  | v :: r, 0 => by simp [lget]
  | v :: r, i + 1 => by simp [lget, lget_eq r i]
theorem Sat.cellL {i b off : Nat} {cs : Array Value} {t : TypeId} {fz : Nat × Nat} {v : Value} (h : Sat w0 w C) (hi : nth C i = some (.obj b (.cells cs t fz))) (hv : lget cs.toList off = some v) :
    w.cell? ⟨b, off, none⟩ = some v := h.cell hi (by rw [lget_eq] at hv; simpa using hv)

/-- A block whose object turns. -/
theorem Sat.set {b : Nat} {o o' : Obj} (h : Sat w0 w (.obj b o :: C)) (hos : w'.os = w.os) (ht : w'.tape = w.tape) (hout : w'.output = w.output) (hz : w'.heap.size = w.heap.size)
    (hb : w'.heap[b]? = some o') (hr : ∀ i, i ≠ b → w'.heap[i]? = w.heap[i]?) (hdr : w.drawn ≤ w'.drawn := by exact Nat.le_refl _) : Sat w0 w' (.obj b o' :: C) := by
  obtain ⟨f, hf, hs⟩ := h.own
  obtain ⟨g, k, hg, hk, ha, rfl⟩ := made_cons.1 hf
  have e : g = _ := hg
  subst e
  refine ⟨hos.trans h.os, ht.trans h.tape, ⟨hout.trans h.output.1, Nat.le_trans h.output.2 hdr⟩, by rw [hz]; exact h.size, _, .cons (c := .obj b o') rfl hk ?_, ?_⟩
  · intro i
    rcases ha i with e | e
    · by_cases hi : i = b
      · simp [hi] at e
      · exact .inl (by simp [hi])
    · exact .inr e
  · intro i x hx
    by_cases hi : i = b
    · subst hi
      simp [join] at hx
      subst hx
      exact hb
    · rw [hr i hi]
      refine hs i x ?_
      simpa [join, hi] using hx

theorem Sat.new {o : Obj} (h : Sat w0 w C) : Sat w0 (w.alloc o) (.obj w.heap.size o :: C) := by
  obtain ⟨f, hf, hs⟩ := h.own
  refine ⟨h.os, h.tape, h.output, Nat.le_trans h.size (by show _ ≤ (w.heap.push o).size; simp), _, .cons (c := .obj w.heap.size o) rfl hf ?_, ?_⟩
  · intro i
    by_cases hi : i = w.heap.size
    · subst hi
      right
      cases e : f w.heap.size with
      | none => rfl
      | some x =>
        have := hs _ _ e
        simp at this
    · exact .inl (by simp [hi])
  · intro i x hx
    by_cases hi : i = w.heap.size
    · subst hi
      simp [join] at hx
      subst hx
      show (w.heap.push o)[w.heap.size]? = _
      simp
    · have hx' : f i = some x := by simpa [join, hi] using hx
      have := hs i x hx'
      have hlt : i < w.heap.size := (Array.getElem?_eq_some_iff.1 this).1
      show (w.heap.push o)[i]? = _
      rw [Array.getElem?_push, if_neg hi]
      exact this

/-- A world of the same heap. -/
theorem Sat.same (h : Sat w0 w C) (hos : w'.os = w.os) (ht : w'.tape = w.tape) (hout : w'.output = w.output) (hh : w'.heap = w.heap) (hdr : w.drawn ≤ w'.drawn := by first | exact Nat.le_refl _ | exact Nat.le_succ _) : Sat w0 w' C := by
  obtain ⟨f, hf, hs⟩ := h.own
  exact ⟨hos.trans h.os, ht.trans h.tape, ⟨hout.trans h.output.1, Nat.le_trans h.output.2 hdr⟩, by rw [hh]; exact h.size, f, hf, by rw [hh]; exact hs⟩
theorem Sat.drew (h : Sat w0 w C) : Sat w0 w.drew C := h.same rfl rfl rfl rfl

/-! ### chunks made of chunks -/
def star (C : List Chunk) : Chunk := .pr fun f => Made C f
def exC {α : Type} (c : α → Chunk) : Chunk := .pr fun f => ∃ x, (c x).holds f
def pureC (p : Prop) (c : Chunk) : Chunk := .pr fun f => p ∧ c.holds f
def emp : Chunk := star []
/-- All of the world W. -/
def whole (W : World) : Chunk := .pr fun f => f = fun i => W.heap[i]?

theorem sat_iff {C D : List Chunk} (h : ∀ f, Made C f ↔ Made D f) : Sat w0 w C ↔ Sat w0 w D :=
  ⟨fun ⟨a, b, c, d, f, hf, hs⟩ => ⟨a, b, c, d, f, (h f).1 hf, hs⟩, fun ⟨a, b, c, d, f, hf, hs⟩ => ⟨a, b, c, d, f, (h f).2 hf, hs⟩⟩
theorem made_star : Made (star D :: C) f ↔ Made (D ++ C) f := by rw [made_cons, made_append]; rfl
theorem sat_star : Sat w0 w (star D :: C) ↔ Sat w0 w (D ++ C) := sat_iff fun _ => made_star
theorem made_ex {α : Type} {c : α → Chunk} : Made (exC c :: C) f ↔ ∃ x, Made (c x :: C) f := by
  simp only [made_cons]
  constructor
  · rintro ⟨g, h, ⟨x, hx⟩, r⟩; exact ⟨x, g, h, hx, r⟩
  · rintro ⟨x, g, h, hx, r⟩; exact ⟨g, h, ⟨x, hx⟩, r⟩
theorem sat_ex {α : Type} {c : α → Chunk} : Sat w0 w (exC c :: C) ↔ ∃ x, Sat w0 w (c x :: C) := by
  constructor
  · rintro ⟨a, b, d, e, f, hf, hs⟩
    obtain ⟨x, hx⟩ := made_ex.1 hf
    exact ⟨x, a, b, d, e, f, hx, hs⟩
  · rintro ⟨x, a, b, d, e, f, hf, hs⟩
    exact ⟨a, b, d, e, f, made_ex.2 ⟨x, hf⟩, hs⟩
theorem made_pure {p : Prop} : Made (pureC p c :: C) f ↔ p ∧ Made (c :: C) f := by
  simp only [made_cons]
  constructor
  · rintro ⟨g, h, ⟨x, hx⟩, r⟩; exact ⟨x, g, h, hx, r⟩
  · rintro ⟨x, g, h, hx, r⟩; exact ⟨g, h, ⟨x, hx⟩, r⟩
theorem sat_pure {p : Prop} : Sat w0 w (pureC p c :: C) ↔ p ∧ Sat w0 w (c :: C) := by
  constructor
  · rintro ⟨a, b, d, e, f, hf, hs⟩
    obtain ⟨x, hx⟩ := made_pure.1 hf
    exact ⟨x, a, b, d, e, f, hx, hs⟩
  · rintro ⟨x, a, b, d, e, f, hf, hs⟩
    exact ⟨a, b, d, e, f, made_pure.2 ⟨x, hf⟩, hs⟩
theorem sat_emp : Sat w0 w (emp :: C) ↔ Sat w0 w C := sat_star

theorem sat_whole (W : World) : Sat W W [whole W] := ⟨rfl, rfl, ⟨rfl, Nat.le_refl _⟩, Nat.le_refl _, _, made_one (c := whole W) rfl, fun _ _ h => h⟩
theorem Sat.whole_get {W : World} (h : Sat w0 w (whole W :: C)) {i : Nat} (hi : i < W.heap.size) : w.heap[i]? = W.heap[i]? := by
  obtain ⟨f, hf, hs⟩ := h.own
  obtain ⟨g, k, hg, hk, ha, rfl⟩ := made_cons.1 hf
  have e : g = _ := hg
  subst e
  have : W.heap[i]? = some W.heap[i] := Array.getElem?_eq_getElem hi
  rw [this]
  exact hs i _ (join_some this)
theorem Sat.whole_cell {W : World} (h : Sat w0 w (whole W :: C)) {p : Addr} {v : Value} (hv : W.cell? p = some v) : w.cell? p = some v := by
  rw [← hv]
  exact World.cell?_of_block (w := W) (h.whole_get (World.block_lt_of_cell? _ _ hv))
theorem Sat.whole_ne {W : World} {b : Nat} {o : Obj} (h : Sat w0 w (.obj b o :: whole W :: C)) : W.heap.size ≤ b := by
  obtain ⟨f, hf, hs⟩ := h.own
  obtain ⟨g, k, hg, hk, ha, rfl⟩ := made_cons.1 hf
  obtain ⟨g2, k2, hg2, hk2, ha2, rfl⟩ := made_cons.1 hk
  have e1 : g = _ := hg
  have e2 : g2 = _ := hg2
  have := ha b
  rw [e1, e2] at this
  simp [join_eq_none] at this
  exact this.1
theorem Sat.below {W : World} (h : Sat W w (whole W :: C)) : Below W.heap.size W w := ⟨h.os, h.tape, h.output.1, h.size, fun _ hk => h.whole_get hk⟩
end heaps
end Go.Proofs.Ytbfdebddoncfhaa.Sk
/-! Sk, part two: what single operations yield. -/
namespace Go.Proofs.Ytbfdebddoncfhaa.Sk
open Go Go.RowKit
set_option linter.unusedVariables false
set_option linter.unusedSimpArgs false

/-- Operation o yields v in every world and does nothing else. -/
def Pu (P : Program) (ρ : Operand → Value) (o : Oper) (v : Value) : Prop := ∀ w, (execOp ρ o).run P w = .ok (.value v) w
/-- Operation o yields v in the world w and does nothing else. -/
def Rd (P : Program) (ρ : Operand → Value) (w : World) (o : Oper) (v : Value) : Prop := (execOp ρ o).run P w = .ok (.value v) w
theorem Pu.rd {P : Program} {ρ : Operand → Value} {o : Oper} {v : Value} (h : Pu P ρ o v) (w : World) : Rd P ρ w o v := h w

section pure
variable {P : Program} {ρ : Operand → Value} {dst : Option Tmp} {ty : TypeId} {pos : String} {af : Array Edge} {g : Option (Nat × Bool)}

theorem pu_move {x : Operand} {v : Value} (hx : ρ x = v) : Pu P ρ ⟨dst, .move x, ty, pos, af, g⟩ v := fun w => by subst hx; rfl
theorem pu_assign {x : Operand} {v : Value} (hx : ρ x = v) : Pu P ρ ⟨dst, .assign x, ty, pos, af, g⟩ v := fun w => by subst hx; rfl
theorem pu_pick {c x y : Operand} {b : Bool} {u v : Value} (hc : ρ c = .bool b) (hx : ρ x = u) (hy : ρ y = v) : Pu P ρ ⟨dst, .pick c x y, ty, pos, af, g⟩ (if b then u else v) := fun w => by
  subst hx; subst hy
  simp [execOp, hc, asBool]
theorem pu_pick_t {c x y : Operand} {u : Value} (hc : ρ c = .bool true) (hx : ρ x = u) : Pu P ρ ⟨dst, .pick c x y, ty, pos, af, g⟩ u := fun w => by
  subst hx
  simp [execOp, hc, asBool]
theorem pu_pick_f {c x y : Operand} {u : Value} (hc : ρ c = .bool false) (hy : ρ y = u) : Pu P ρ ⟨dst, .pick c x y, ty, pos, af, g⟩ u := fun w => by
  subst hy
  simp [execOp, hc, asBool]
theorem pu_nil {x : Operand} {p : Addr} (hx : ρ x = .pointer (some p)) : Pu P ρ ⟨dst, .nilCheck x, ty, pos, af, g⟩ (.pointer (some p)) := fun w => by
  simp [execOp, hx]
theorem pu_nilf {x : Operand} {f : FuncId} {a c : Array Value} (hx : ρ x = .func (.func f) a c) : Pu P ρ ⟨dst, .nilCheck x, ty, pos, af, g⟩ (.func (.func f) a c) := fun w => by
  simp [execOp, hx]
theorem pu_extract {x : Operand} {i : Nat} {vs : Array Value} {v : Value} (hx : ρ x = .tuple vs) (hv : vs[i]? = some v) : Pu P ρ ⟨dst, .extract x i, ty, pos, af, g⟩ v := fun w => by
  simp [execOp, hx, Instr.extract, hv]
theorem pu_not {x : Operand} {t : TypeId} {b : Bool} (hx : ρ x = .bool b) : Pu P ρ ⟨dst, .unOp .not t x, ty, pos, af, g⟩ (.bool !b) := fun w => by
  simp [execOp, hx, Op.unary]
theorem pu_func {f : FuncId} {c : Array Operand} {vs : List Value} (hc : c.toList.map ρ = vs) : Pu P ρ ⟨dst, .makeFunc (.func f) #[] c, ty, pos, af, g⟩ (.func (.func f) #[] vs.toArray) := fun w => by
  have hc' : c.map ρ = vs.toArray := by apply Array.ext'; simpa using hc
  simp [execOp, Instr.makeFunc, hc']

/-! ### fields and elements -/
/-- Field i of the struct type s lies off cells behind the struct's begin, and takes a cell at least. -/
def fieldB (P : Program) (s i off : Nat) : Bool := match P.underlying s with
  | some (.struct fs) => match fs[i]? with
    | some f => f.offset == off && (match P.info? f.type with | some j => j.size != 0 | none => false)
    | none => false
  | _ => false
theorem pu_field {s i off : Nat} {x : Operand} {b o : Nat} (hf : fieldB P s i off = true) (hx : ρ x = .pointer (some ⟨b, o, none⟩)) : Pu P ρ ⟨dst, .fieldAddr s x i, ty, pos, af, g⟩ (.pointer (some ⟨b, o + off, none⟩)) := fun w => by
  unfold fieldB at hf
  split at hf
  · rename_i fs hu
    split at hf
    · rename_i f hfi
      simp only [Bool.and_eq_true, beq_iff_eq] at hf
      obtain ⟨ho, hz⟩ := hf
      split at hz
      · rename_i j hj
        have hz' : j.size ≠ 0 := by simpa using hz
        have e : (⟨b, o, none⟩ : Addr).add f.offset = ⟨b, o + off, none⟩ := by
          unfold Addr.add
          split
          · simp_all
          · simp [ho]
        simp [execOp, hx, Instr.fieldAt, underlying, program, hu, hfi, Instr.sureAddr, fieldPlace, sizeOf, typeInfo, hj, hz', Sem.run, e, Sem.bind, bind, pure]
      · cases hz
    · cases hf
  · cases hf
def sizeB (P : Program) (t n : Nat) : Bool := match P.info? t with | some i => i.size == n | none => false
def sliceB (P : Program) (t e n : Nat) : Bool := match P.underlying t with | some (.slice e') => e' == e && sizeB P e n | _ => false
theorem sliceB_spec {t e n : Nat} (h : sliceB P t e n = true) : P.underlying t = some (.slice e) ∧ ∃ i, P.info? e = some i ∧ i.size = n := by
  unfold sliceB at h
  split at h
  · rename_i e' hu
    simp only [Bool.and_eq_true, beq_iff_eq] at h
    obtain ⟨rfl, h⟩ := h
    unfold sizeB at h
    split at h
    · rename_i i hi
      exact ⟨hu, i, hi, by simpa using h⟩
    · cases h
  · cases h
theorem pu_elem {t e n : Nat} {x y : Operand} {k : IntKind} {b o len cap : Nat} {i : Int} (ht : sliceB P t e n = true) (hx : ρ x = .slice (some ⟨b, o, none⟩) len cap) (hy : ρ y = .int k i) (h0 : 0 ≤ i) (h1 : i < len) :
    Pu P ρ ⟨dst, .indexAddr t x y, ty, pos, af, g⟩ (.pointer (some ⟨b, o + i.toNat * n, none⟩)) := fun w => by
  obtain ⟨hu, j, hj, hn⟩ := sliceB_spec ht
  have e1 : (⟨b, o, none⟩ : Addr).add (i.toNat * n) = ⟨b, o + i.toNat * n, none⟩ := by
    unfold Addr.add
    split
    · simp_all
    · rfl
  simp [execOp, hx, hy, Instr.indexAt, asIntOf, underlying, program, hu, sizeOf, typeInfo, hj, hn, h0, h1, Sem.run, Sem.bind, bind, pure, e1]

/-! ### numbers -/
def intB (P : Program) (t : Nat) (k : IntKind) : Bool := match P.underlying t with | some (.int k') => k' == k | _ => false
theorem pu_add {t : Nat} {x y : Operand} {k : IntKind} {m n : Int} (hx : ρ x = .int k m) (hy : ρ y = .int k n) : Pu P ρ ⟨dst, .binOp .add t x y t, ty, pos, af, g⟩ (.int k (k.wrap (m + n))) := fun w => by
  simp [execOp, hx, hy, eqGuard, binOp, Op.intArith, Sem.run, Sem.bind, bind, pure]
theorem pu_sub {t : Nat} {x y : Operand} {k : IntKind} {m n : Int} (hx : ρ x = .int k m) (hy : ρ y = .int k n) : Pu P ρ ⟨dst, .binOp .sub t x y t, ty, pos, af, g⟩ (.int k (k.wrap (m - n))) := fun w => by
  simp [execOp, hx, hy, eqGuard, binOp, Op.intArith, Sem.run, Sem.bind, bind, pure]
theorem pu_mul {t : Nat} {x y : Operand} {k : IntKind} {m n : Int} (hx : ρ x = .int k m) (hy : ρ y = .int k n) : Pu P ρ ⟨dst, .binOp .mul t x y t, ty, pos, af, g⟩ (.int k (k.wrap (m * n))) := fun w => by
  simp [execOp, hx, hy, eqGuard, binOp, Op.intArith, Sem.run, Sem.bind, bind, pure]

theorem pu_add64 {t : Nat} {x y : Operand} {m n : Int} (hx : ρ x = .int .i64 m) (hy : ρ y = .int .i64 n) (h : -9223372036854775808 ≤ m + n ∧ m + n ≤ 9223372036854775807) : Pu P ρ ⟨dst, .binOp .add t x y t, ty, pos, af, g⟩ (.int .i64 (m + n)) := by
  have := pu_add (P := P) (dst := dst) (ty := ty) (pos := pos) (af := af) (g := g) (t := t) hx hy
  rwa [IntWalk.i64_in _ h] at this
theorem pu_sub64 {t : Nat} {x y : Operand} {m n : Int} (hx : ρ x = .int .i64 m) (hy : ρ y = .int .i64 n) (h : -9223372036854775808 ≤ m - n ∧ m - n ≤ 9223372036854775807) : Pu P ρ ⟨dst, .binOp .sub t x y t, ty, pos, af, g⟩ (.int .i64 (m - n)) := by
  have := pu_sub (P := P) (dst := dst) (ty := ty) (pos := pos) (af := af) (g := g) (t := t) hx hy
  rwa [IntWalk.i64_in _ h] at this
theorem pu_mul64 {t : Nat} {x y : Operand} {m n : Int} (hx : ρ x = .int .i64 m) (hy : ρ y = .int .i64 n) (h : -9223372036854775808 ≤ m * n ∧ m * n ≤ 9223372036854775807) : Pu P ρ ⟨dst, .binOp .mul t x y t, ty, pos, af, g⟩ (.int .i64 (m * n)) := by
  have := pu_mul (P := P) (dst := dst) (ty := ty) (pos := pos) (af := af) (g := g) (t := t) hx hy
  rwa [IntWalk.i64_in _ h] at this
theorem pu_quo {t : Nat} {x y : Operand} {k : IntKind} {m n : Int} (hx : ρ x = .int k m) (hy : ρ y = .int k n) (h : n ≠ 0) : Pu P ρ ⟨dst, .binOp .quo t x y t, ty, pos, af, g⟩ (.int k (k.wrap (m.tdiv n))) := fun w => by
  simp [execOp, hx, hy, eqGuard, binOp, Op.intDiv, h, Sem.run, Sem.bind, bind, pure]
theorem pu_rem {t : Nat} {x y : Operand} {k : IntKind} {m n : Int} (hx : ρ x = .int k m) (hy : ρ y = .int k n) (h : n ≠ 0) : Pu P ρ ⟨dst, .binOp .rem t x y t, ty, pos, af, g⟩ (.int k (m.tmod n)) := fun w => by
  simp [execOp, hx, hy, eqGuard, binOp, Op.intDiv, h, Sem.run, Sem.bind, bind, pure]
theorem pu_quo64 {t : Nat} {x y : Operand} {m n : Int} (hx : ρ x = .int .i64 m) (hy : ρ y = .int .i64 n) (h : 0 ≤ m ∧ m ≤ 9223372036854775807 ∧ 1 ≤ n) : Pu P ρ ⟨dst, .binOp .quo t x y t, ty, pos, af, g⟩ (.int .i64 (m / n)) := by
  have := pu_quo (P := P) (dst := dst) (ty := ty) (pos := pos) (af := af) (g := g) (t := t) hx hy (by omega)
  rwa [IntWalk.i64_quo _ _ h] at this
theorem pu_rem64 {t : Nat} {x y : Operand} {k : IntKind} {m n : Int} (hx : ρ x = .int k m) (hy : ρ y = .int k n) (h : 0 ≤ m ∧ 1 ≤ n) : Pu P ρ ⟨dst, .binOp .rem t x y t, ty, pos, af, g⟩ (.int k (m % n)) := by
  have := pu_rem (P := P) (dst := dst) (ty := ty) (pos := pos) (af := af) (g := g) (t := t) hx hy (by omega)
  rwa [Int.tmod_eq_emod_of_nonneg h.1] at this
theorem pu_lss {t u : Nat} {x y : Operand} {k : IntKind} {m n : Int} (hx : ρ x = .int k m) (hy : ρ y = .int k n) : Pu P ρ ⟨dst, .binOp .lss t x y u, ty, pos, af, g⟩ (.bool (decide (m < n))) := fun w => by
  simp [execOp, hx, hy, eqGuard, binOp, Op.intCmp, Sem.run, Sem.bind, bind, pure]
theorem pu_leq {t u : Nat} {x y : Operand} {k : IntKind} {m n : Int} (hx : ρ x = .int k m) (hy : ρ y = .int k n) : Pu P ρ ⟨dst, .binOp .leq t x y u, ty, pos, af, g⟩ (.bool (decide (m ≤ n))) := fun w => by
  simp [execOp, hx, hy, eqGuard, binOp, Op.intCmp, Sem.run, Sem.bind, bind, pure]
theorem pu_gtr {t u : Nat} {x y : Operand} {k : IntKind} {m n : Int} (hx : ρ x = .int k m) (hy : ρ y = .int k n) : Pu P ρ ⟨dst, .binOp .gtr t x y u, ty, pos, af, g⟩ (.bool (decide (n < m))) := fun w => by
  simp [execOp, hx, hy, eqGuard, binOp, Op.intCmp, Sem.run, Sem.bind, bind, pure]
theorem pu_geq {t u : Nat} {x y : Operand} {k : IntKind} {m n : Int} (hx : ρ x = .int k m) (hy : ρ y = .int k n) : Pu P ρ ⟨dst, .binOp .geq t x y u, ty, pos, af, g⟩ (.bool (decide (n ≤ m))) := fun w => by
  simp [execOp, hx, hy, eqGuard, binOp, Op.intCmp, Sem.run, Sem.bind, bind, pure]
theorem pu_eql {t u : Nat} {x y : Operand} {k : IntKind} {m n : Int} (hx : ρ x = .int k m) (hy : ρ y = .int k n) : Pu P ρ ⟨dst, .binOp .eql t x y u, ty, pos, af, g⟩ (.bool (decide (m = n))) := fun w => by
  simp [execOp, hx, hy, eqGuard, binOp, Op.intCmp, Sem.run, Sem.bind, bind, pure]
  rfl
theorem pu_neq {t u : Nat} {x y : Operand} {k : IntKind} {m n : Int} (hx : ρ x = .int k m) (hy : ρ y = .int k n) : Pu P ρ ⟨dst, .binOp .neq t x y u, ty, pos, af, g⟩ (.bool (decide (m ≠ n))) := fun w => by
  simp [execOp, hx, hy, eqGuard, binOp, Op.intCmp, Sem.run, Sem.bind, bind, pure]
  rfl
theorem pu_neg {t : Nat} {x : Operand} {m : Int} (hx : ρ x = .int .i64 m) (h : -9223372036854775808 ≤ -m ∧ -m ≤ 9223372036854775807) : Pu P ρ ⟨dst, .unOp .neg t x, ty, pos, af, g⟩ (.int .i64 (-m)) := fun w => by
  simp [execOp, hx, Op.unary, Op.intArith, Sem.run, Sem.bind, bind, pure]
  exact IntWalk.i64_in _ h
theorem pu_conv_int {s t : Nat} {x : Operand} {k k' : IntKind} {m : Int} (hs : intB P s k = true) (ht : intB P t k' = true) (hx : ρ x = .int k m) : Pu P ρ ⟨dst, .convert s t x, ty, pos, af, g⟩ (.int k' (k'.wrap m)) := fun w => by
  have h1 : P.underlying s = some (.int k) := by
    unfold intB at hs; split at hs
    · rename_i h; rw [h]; simpa using hs
    · cases hs
  have h2 : P.underlying t = some (.int k') := by
    unfold intB at ht; split at ht
    · rename_i h; rw [h]; simpa using ht
    · cases ht
  simp [execOp, hx, convert, underlying, program, h1, h2, Conv.intToInt, Sem.run, Sem.bind, bind, pure]

/-! ### strings -/
theorem toList_inj {a b : ByteArray} (h : a.toList = b.toList) : a = b := by
  rw [ByteArray.toList_eq, ByteArray.toList_eq] at h
  cases a; cases b
  simp at h
  simpa using h
theorem bytes_beq (a b : ByteArray) : (a.toList == b.toList) = decide (a = b) := by
  by_cases h : a = b
  · subst h; simp
  · have : a.toList ≠ b.toList := fun e => h (toList_inj e)
    simp [h, this]
theorem pu_seql {t u : Nat} {x y : Operand} {m n : ByteArray} (hx : ρ x = .string m) (hy : ρ y = .string n) : Pu P ρ ⟨dst, .binOp .eql t x y u, ty, pos, af, g⟩ (.bool (decide (m = n))) := fun w => by
  simp [execOp, hx, hy, eqGuard, binOp, Op.stringOp, Sem.run, Sem.bind, bind, pure, ← bytes_beq]
theorem pu_sneq {t u : Nat} {x y : Operand} {m n : ByteArray} (hx : ρ x = .string m) (hy : ρ y = .string n) : Pu P ρ ⟨dst, .binOp .neq t x y u, ty, pos, af, g⟩ (.bool (!decide (m = n))) := fun w => by
  simp [execOp, hx, hy, eqGuard, binOp, Op.stringOp, Sem.run, Sem.bind, bind, pure, ← bytes_beq]
theorem pu_sadd {t u : Nat} {x y : Operand} {m n : ByteArray} (hx : ρ x = .string m) (hy : ρ y = .string n) (h : m.size + n.size ≤ 9223372036854775807) : Pu P ρ ⟨dst, .binOp .add t x y u, ty, pos, af, g⟩ (.string (m ++ n)) := fun w => by
  have hm : ¬ ((m.size : Int) + (n.size : Int) > IntKind.i64.max) := by
    have : IntKind.i64.max = 9223372036854775807 := by rfl
    omega
  have hm2 : ¬ (((m.size + n.size : Nat) : Int) > IntKind.i64.max) := by simpa using hm
  have e : Op.stringOp .add m n = pure (.string (m ++ n)) := by
    unfold Op.stringOp
    simp only [hm2, if_false]
  simp only [execOp, hx, hy, eqGuard, binOp, e, Sem.run, Sem.bind, bind, pure]
  rfl
theorem pu_slen {x : Operand} {t : Nat} {s : ByteArray} (ht : P.underlying t = some .string) (hx : ρ x = .string s) : Pu P ρ ⟨dst, .call { callee := .builtin .len, args := #[x], argTypes := #[t] }, ty, pos, af, g⟩ (.int .i64 s.size) := fun w => by
  simp [execOp, hx, resolve, invoke, builtin, Builtin.len_, underlying, program, ht, goInt, Sem.run, Sem.bind, bind, pure]
theorem pu_len {x : Operand} {t e n : Nat} {A : Option Addr} {l c : Nat} (ht : sliceB P t e n = true) (hx : ρ x = .slice A l c) : Pu P ρ ⟨dst, .call { callee := .builtin .len, args := #[x], argTypes := #[t] }, ty, pos, af, g⟩ (.int .i64 l) := fun w => by
  obtain ⟨hu, _⟩ := sliceB_spec ht
  simp [execOp, hx, resolve, invoke, builtin, Builtin.len_, underlying, program, hu, goInt, Sem.run, Sem.bind, bind, pure]
theorem pu_byte {t : Nat} {x y : Operand} {k : IntKind} {s : ByteArray} {i : Int} {b : UInt8} (ht : P.underlying t = some .string) (hx : ρ x = .string s) (hy : ρ y = .int k i) (h0 : 0 ≤ i) (hb : s[i.toNat]? = some b) :
    Pu P ρ ⟨dst, .index t x y, ty, pos, af, g⟩ (.int .u8 b.toNat) := fun w => by
  simp [execOp, hx, hy, Instr.index, asIntOf, underlying, program, ht, h0, hb, Sem.run, Sem.bind, bind, pure]
/-- Tests against nil, and of truths. -/
theorem run_eq_ptr {t e : Nat} {A : Option Addr} (ht : P.underlying t = some (.pointer e)) (w : World) : (Op.equal t (.pointer A) (.pointer none)).run P w = .ok A.isNone w := by
  unfold Op.equal Op.maxDepth
  rw [show (10000 : Nat) = 9999 + 1 from rfl, Op.equalIn]
  simp only [Sem.run_bind, run_underlying ht, Result.andThen_ok]
  cases A <;> rfl
theorem run_eq_bool {t : Nat} {m n : Bool} (ht : P.underlying t = some .bool) (w : World) : (Op.equal t (.bool m) (.bool n)).run P w = .ok (m == n) w := by
  unfold Op.equal Op.maxDepth
  rw [show (10000 : Nat) = 9999 + 1 from rfl, Op.equalIn]
  simp only [Sem.run_bind, run_underlying ht, Result.andThen_ok]
  rfl
theorem run_eq_slice {t e : Nat} {A : Option Addr} {l c : Nat} (ht : P.underlying t = some (.slice e)) (w : World) : (Op.equal t (.slice A l c) (.slice none 0 0)).run P w = .ok A.isNone w := by
  unfold Op.equal Op.maxDepth
  rw [show (10000 : Nat) = 9999 + 1 from rfl, Op.equalIn]
  simp only [Sem.run_bind, run_underlying ht, Result.andThen_ok]
  cases A <;> rfl
theorem run_eq_func {t : Nat} {ps rs : Array TypeId} {vr : Bool} {f : Fn} {a c : Array Value} (ht : P.underlying t = some (.func ps rs vr)) (w : World) : (Op.equal t (.func f a c) .nilFunc).run P w = .ok false w := by
  unfold Op.equal Op.maxDepth
  rw [show (10000 : Nat) = 9999 + 1 from rfl, Op.equalIn]
  simp only [Sem.run_bind, run_underlying ht, Result.andThen_ok]
  rfl
theorem pu_eq_of {t u : Nat} {x y : Operand} {a b : Value} {r : Bool} (hx : ρ x = a) (hy : ρ y = b) (hb : ∀ w, (binOp .eql t a b).run P w = .ok (.bool r) w) (hg : ∀ w, (eqGuard .eql t x y a b).run P w = .ok () w) : Pu P ρ ⟨dst, .binOp .eql t x y u, ty, pos, af, g⟩ (.bool r) := fun w => by
  simp only [execOp, hx, hy, Sem.run_bind, hg, hb, Result.andThen_ok]
  rfl
theorem pu_ne_of {t u : Nat} {x y : Operand} {a b : Value} {r : Bool} (hx : ρ x = a) (hy : ρ y = b) (hb : ∀ w, (binOp .neq t a b).run P w = .ok (.bool r) w) (hg : ∀ w, (eqGuard .neq t x y a b).run P w = .ok () w) : Pu P ρ ⟨dst, .binOp .neq t x y u, ty, pos, af, g⟩ (.bool r) := fun w => by
  simp only [execOp, hx, hy, Sem.run_bind, hg, hb, Result.andThen_ok]
  rfl
theorem run_eql_of {t : Nat} {a b : Value} {r : Bool} {w : World} (hd : binOp .eql t a b = (do pure (.bool (← Op.equal t a b)))) (h : (Op.equal t a b).run P w = .ok r w) : (binOp .eql t a b).run P w = .ok (.bool r) w := by
  rw [hd]
  simp only [Sem.run_bind, h, Result.andThen_ok]
  rfl
theorem run_neq_of {t : Nat} {a b : Value} {r : Bool} {w : World} (hd : binOp .neq t a b = (do pure (.bool (!(← Op.equal t a b))))) (h : (Op.equal t a b).run P w = .ok r w) : (binOp .neq t a b).run P w = .ok (.bool (!r)) w := by
  rw [hd]
  simp only [Sem.run_bind, h, Result.andThen_ok]
  rfl
theorem pu_peq {t u e : Nat} {x y : Operand} {A : Option Addr} (ht : P.underlying t = some (.pointer e)) (hx : ρ x = .pointer A) (hy : ρ y = .pointer none) : Pu P ρ ⟨dst, .binOp .eql t x y u, ty, pos, af, g⟩ (.bool A.isNone) :=
  pu_eq_of hx hy (fun w => run_eql_of rfl (run_eq_ptr ht w)) (fun w => rfl)
theorem pu_pne {t u e : Nat} {x y : Operand} {A : Option Addr} (ht : P.underlying t = some (.pointer e)) (hx : ρ x = .pointer A) (hy : ρ y = .pointer none) : Pu P ρ ⟨dst, .binOp .neq t x y u, ty, pos, af, g⟩ (.bool (!A.isNone)) :=
  pu_ne_of hx hy (fun w => run_neq_of rfl (run_eq_ptr ht w)) (fun w => rfl)
theorem pu_beq {t u : Nat} {x y : Operand} {m n : Bool} (ht : P.underlying t = some .bool) (hx : ρ x = .bool m) (hy : ρ y = .bool n) : Pu P ρ ⟨dst, .binOp .eql t x y u, ty, pos, af, g⟩ (.bool (m == n)) :=
  pu_eq_of hx hy (fun w => run_eql_of rfl (run_eq_bool ht w)) (fun w => rfl)
theorem pu_bne {t u : Nat} {x y : Operand} {m n : Bool} (ht : P.underlying t = some .bool) (hx : ρ x = .bool m) (hy : ρ y = .bool n) : Pu P ρ ⟨dst, .binOp .neq t x y u, ty, pos, af, g⟩ (.bool (!(m == n))) :=
  pu_ne_of hx hy (fun w => run_neq_of rfl (run_eq_bool ht w)) (fun w => rfl)
theorem pu_sleq {t u e : Nat} {x y : Operand} {A : Option Addr} {l c : Nat} (ht : P.underlying t = some (.slice e)) (hx : ρ x = .slice A l c) (hy : ρ y = .slice none 0 0) : Pu P ρ ⟨dst, .binOp .eql t x y u, ty, pos, af, g⟩ (.bool A.isNone) :=
  pu_eq_of hx hy (fun w => run_eql_of rfl (run_eq_slice ht w)) (fun w => rfl)
theorem pu_slne {t u e : Nat} {x y : Operand} {A : Option Addr} {l c : Nat} (ht : P.underlying t = some (.slice e)) (hx : ρ x = .slice A l c) (hy : ρ y = .slice none 0 0) : Pu P ρ ⟨dst, .binOp .neq t x y u, ty, pos, af, g⟩ (.bool (!A.isNone)) :=
  pu_ne_of hx hy (fun w => run_neq_of rfl (run_eq_slice ht w)) (fun w => rfl)
theorem pu_feq {t u : Nat} {x y : Operand} {ps rs : Array TypeId} {vr : Bool} {f : Fn} {a c : Array Value} (ht : P.underlying t = some (.func ps rs vr)) (hx : ρ x = .func f a c) (hy : ρ y = .nilFunc) : Pu P ρ ⟨dst, .binOp .eql t x y u, ty, pos, af, g⟩ (.bool false) :=
  pu_eq_of hx hy (fun w => run_eql_of rfl (run_eq_func ht w)) (fun w => rfl)

/-! ### parts of slices and strings -/
theorem pu_cut {t e' n : Nat} {x lo hi : Operand} {b o len cap : Nat} {i j : Int} (ht : sliceB P t e' n = true) (hx : ρ x = .slice (some ⟨b, o, none⟩) len cap) (hl : ρ lo = .int .i64 i) (hh : ρ hi = .int .i64 j) (h0 : 0 ≤ i) (h1 : i ≤ j) (h2 : j ≤ cap) :
    Pu P ρ ⟨dst, .slice t x (some lo) (some hi) none, ty, pos, af, g⟩ (.slice (some (if cap = i.toNat then ⟨b, o, none⟩ else (⟨b, o, none⟩ : Addr).add (i.toNat * n))) (j.toNat - i.toNat) (cap - i.toNat)) := fun w => by
  obtain ⟨hu, q, hq, hn⟩ := sliceB_spec ht
  have h3 : 0 ≤ j := by omega
  have h4 : i ≤ max j 0 := by omega
  have h5 : ¬ max j 0 < i := by omega
  have e : ∀ A B : Addr, (if cap = i.toNat then some A else some B) = some (if cap = i.toNat then A else B) := fun A B => by split <;> rfl
  have hz : (sizeOf e').run P w = .ok n w := by simp [sizeOf, typeInfo, program, hq, hn, Sem.run, Sem.bind, bind, pure]
  simp [execOp, hx, hl, hh, Instr.sliceAt, Instr.slice, Instr.sliceBounds, Instr.sliceBound, asIntOf, run_underlying hu, h0, h2, h3, h4, h5, hz, e]
theorem pu_scut {t : Nat} {x lo hi : Operand} {s : ByteArray} {k k' : IntKind} {i j : Int} (ht : P.underlying t = some .string) (hx : ρ x = .string s) (hl : ρ lo = .int k i) (hh : ρ hi = .int k' j) (h0 : 0 ≤ i) (h1 : i ≤ j) (h2 : j ≤ s.size) :
    Pu P ρ ⟨dst, .slice t x (some lo) (some hi) none, ty, pos, af, g⟩ (.string (s.extract i.toNat j.toNat)) := fun w => by
  have h3 : 0 ≤ j := by omega
  have h4 : i ≤ max j 0 := by omega
  have h5 : ¬ max j 0 < i := by omega
  simp [execOp, hx, hl, hh, Instr.sliceAt, Instr.slice, Instr.sliceBounds, Instr.sliceBound, asIntOf, run_underlying ht, h0, h2, h3, h4, h5]
end pure
end Go.Proofs.Ytbfdebddoncfhaa.Sk
/-! Sk, part three: loads, stores, new memory; the steps of a region; ways in and out. -/
namespace Go.Proofs.Ytbfdebddoncfhaa.Sk
open Go Go.RowKit
open Go.Proofs.YtbfdebddoncfhaaW.PrintLast
set_option linter.unusedVariables false
set_option linter.unusedSimpArgs false

/-! ### parts put together -/
def putL (zs : List Value) (off : Nat) (cs : List Value) : List Value := zs.take off ++ cs ++ zs.drop (off + cs.length)
def fillL (pl : List (Nat × Nat)) : List Value → List (Nat × List Value) → Option (List Value)
  | zs, [] => some zs
  | zs, (i, cs) :: r => match pl[i]? with
    | some (off, sz) => bif (cs.length == sz) && Nat.ble (off + cs.length) zs.length then fillL pl (putL zs off cs) r else none
    | none => none

theorem foldl_put (cs : List Value) : ∀ (k off : Nat) (zs : List Value), off + k + cs.length ≤ zs.length →
    (cs.zipIdx k).foldl (fun (acc : Array Value) (p : Value × Nat) => acc.setIfInBounds (off + p.2) p.1) zs.toArray = (putL zs (off + k) cs).toArray := by
  induction cs with
  | nil => intro k off zs h; simp [putL]
  | cons c cs ih =>
    intro k off zs h
    simp only [List.zipIdx_cons, List.foldl_cons, List.setIfInBounds_toArray]
    rw [ih (k + 1) off (zs.set (off + k) c) (by simp at h ⊢; omega)]
    congr 1
    have := list_seg_step zs (off + k) c cs (by simp at h; omega)
    simpa [putL, Nat.add_assoc, Nat.add_comm, Nat.add_left_comm] using this

theorem fill_eq {place : Nat → Option (Nat × Nat)} {pl : List (Nat × Nat)} (hp : ∀ i, place i = pl[i]?) : ∀ (vs : List (Nat × Value)) (zs res : List Value),
    fillL pl zs (vs.map fun p => (p.1, p.2.cells.toList)) = some res → Instr.fill place zs.toArray vs = some res.toArray := by
  intro vs
  induction vs with
  | nil => intro zs res h; simp [fillL] at h; simp [Instr.fill, h]
  | cons p r ih =>
    intro zs res h
    obtain ⟨i, v⟩ := p
    simp only [List.map_cons, fillL] at h
    simp only [Instr.fill, hp]
    cases hq : pl[i]? with
    | none => rw [hq] at h; cases h
    | some q =>
      obtain ⟨off, sz⟩ := q
      rw [hq] at h
      simp only at h ⊢
      cases hc : ((v.cells.toList.length == sz) && Nat.ble (off + v.cells.toList.length) zs.length) with
      | false => rw [hc] at h; simp at h
      | true =>
        rw [hc] at h
        simp only [cond_true] at h
        simp only [Bool.and_eq_true, beq_iff_eq, Array.length_toList] at hc
        have h2 : off + v.cells.size ≤ zs.length := Nat.le_of_ble_eq_true hc.2
        have hb : (decide (v.cells.size ≠ sz) || decide (off + v.cells.size > zs.toArray.size)) = false := by
          simp [hc.1]; omega
        simp only [hb]
        have := foldl_put v.cells.toList 0 off zs (by simpa using h2)
        simp only [Nat.add_zero] at this
        have e : (v.cells.zipIdx).foldl (fun (cs : Array Value) (x : Value × Nat) => match x with | (c, j) => cs.setIfInBounds (off + j) c) zs.toArray = (putL zs off v.cells.toList).toArray := by
          rw [← this, ← Array.foldl_toList]
          simp
        simp only [Bool.false_eq_true, if_false]
        rw [e]
        exact ih _ _ h

def structO (P : Program) (t : Nat) : Option (List (Nat × Nat) × List Value) := match P.info? t, P.underlying t with
  | some i, some (.struct fs) => match i.zero, fs.toList.mapM (fun f => (P.info? f.type).map fun i => (f.offset, i.size)) with
    | some z, some pl => some (pl, z.cells.toList)
    | _, _ => none
  | _, _ => none
section ops
variable {P : Program} {ρ : Operand → Value} {dst : Option Tmp} {ty : TypeId} {pos : String} {af : Array Edge} {g : Option (Nat × Bool)} {w0 w : World} {C : List Chunk}

theorem built_of {t : Nat} {pl : List (Nat × Nat)} {zs res : List Value} {vs : List (Nat × Value)} (hb : structO P t = some (pl, zs)) (hf : fillL pl zs (vs.map fun p => (p.1, p.2.cells.toList)) = some res) : P.built t vs = some res.toArray := by
  unfold structO at hb
  unfold Program.built
  cases hi : P.info? t with
  | none => rw [hi] at hb; cases hb
  | some i =>
    cases hu : P.underlying t with
    | none => rw [hi, hu] at hb; cases hb
    | some d =>
      cases d with
      | struct fs =>
        rw [hi, hu] at hb
        simp only at hb ⊢
        cases hz : i.zero with
        | none => rw [hz] at hb; cases hb
        | some z =>
          cases hm : fs.toList.mapM (fun f => (P.info? f.type).map fun i => (f.offset, i.size)) with
          | none => rw [hz, hm] at hb; cases hb
          | some q =>
            rw [hz, hm] at hb
            simp only [Option.some.injEq, Prod.mk.injEq] at hb ⊢
            obtain ⟨rfl, rfl⟩ := hb
            have := fill_eq (place := fun i => q.toArray[i]?) (pl := q) (fun i => by simp) vs z.cells.toList res hf
            simpa using this
      | _ => rw [hi, hu] at hb; cases hb

theorem pu_build {t : Nat} {parts : Array (Nat × Operand)} {vs : List (Nat × Value)} {cs : List (Nat × List Value)} {pl : List (Nat × Nat)} {zs res : List Value} (hb : structO P t = some (pl, zs))
    (hp : parts.toList.map (fun p => (p.1, ρ p.2)) = vs) (hc : (vs.map fun p => (p.1, p.2.cells.toList)) = cs) (hf : fillL pl zs cs = some res) : Pu P ρ ⟨dst, .build t parts, ty, pos, af, g⟩ (.agg res.toArray) := fun w => by
  subst hc
  have h1 := built_of hb hf
  have h2 : (parts.map fun (x : Nat × Operand) => match x with | (i, x) => (i, ρ x)).toList = vs := by rw [← hp]; simp
  have := run_build w t (parts.map fun (x : Nat × Operand) => match x with | (i, x) => (i, ρ x)) res.toArray (by rw [h2]; exact h1)
  simp only [execOp, Sem.run_bind, this, Result.andThen_ok]
  rfl

/-! ### loads -/
def plainB (P : Program) (t : Nat) : Bool := match P.underlying t with
  | some (.struct _) | some (.array _ _) | none => false
  | some _ => true
theorem run_isAgg {t : Nat} (ht : plainB P t = true) (w : World) : (isAgg t).run P w = .ok false w := by
  unfold plainB at ht
  cases hu : P.underlying t with
  | none => rw [hu] at ht; cases ht
  | some d =>
    rw [hu] at ht
    simp only [isAgg, Sem.run_bind, run_underlying hu, Result.andThen_ok]
    cases d <;> simp_all
theorem rd_load {t : Nat} {x : Operand} {p : Addr} {v : Value} (ht : plainB P t = true) (hx : ρ x = .pointer (some p)) (hc : w.cell? p = some v) : Rd P ρ w ⟨dst, .load t x, ty, pos, af, g⟩ v := by
  unfold Rd
  simp [execOp, hx, Instr.loadAt, Instr.sureAddr, loadVar, run_isAgg ht, hc]
def aggB (P : Program) (t n : Nat) : Bool := sizeB P t n && match P.underlying t with
  | some (.struct _) | some (.array _ _) => true
  | _ => false
theorem sizeB_run {t n : Nat} (h : sizeB P t n = true) (w : World) : (sizeOf t).run P w = .ok n w := by
  unfold sizeB at h
  split at h
  · rename_i i hi
    simp at h
    simp [sizeOf, typeInfo, hi, h]
  · cases h
theorem aggB_run {t n : Nat} (h : aggB P t n = true) (w : World) : (isAgg t).run P w = .ok true w := by
  unfold aggB at h
  simp only [Bool.and_eq_true] at h
  obtain ⟨_, h⟩ := h
  split at h
  · rename_i fs hu; simp only [isAgg, Sem.run_bind, run_underlying hu, Result.andThen_ok]; rfl
  · rename_i fs hu; simp only [isAgg, Sem.run_bind, run_underlying hu, Result.andThen_ok]; rfl
  · cases h
theorem addr_add (b o j : Nat) : (⟨b, o, none⟩ : Addr).add j = ⟨b, o + j, none⟩ := by
  unfold Addr.add
  split
  · subst_vars; rfl
  · rfl
theorem rd_loadN {t n b o : Nat} {x : Operand} {vs : List Value} (ht : aggB P t n = true) (hx : ρ x = .pointer (some ⟨b, o, none⟩)) (hl : vs.length = n) (hc : ∀ j v, vs[j]? = some v → w.cell? ⟨b, o + j, none⟩ = some v) :
    Rd P ρ w ⟨dst, .load t x, ty, pos, af, g⟩ (.agg vs.toArray) := by
  have hz : sizeB P t n = true := by simp only [aggB, Bool.and_eq_true] at ht; exact ht.1
  have := run_loadCells_list (P := P) (w := w) ⟨b, o, none⟩ vs (fun j v h => by rw [addr_add]; exact hc j v h)
  unfold Rd
  subst hl
  simp [execOp, hx, Instr.loadAt, Instr.sureAddr, loadVar, aggB_run ht, sizeB_run hz, this]

/-! ### new memory -/
def zeroO (P : Program) (t : Nat) : Option Value := (P.info? t).bind (·.zero)
theorem zeroO_run {t : Nat} {z : Value} (h : zeroO P t = some z) (w : World) : (zeroValue t).run P w = .ok z w := by
  unfold zeroO at h
  cases hi : P.info? t with
  | none => rw [hi] at h; cases h
  | some i =>
    rw [hi] at h
    have h' : i.zero = some z := h
    simp [zeroValue, typeInfo, hi, h']
theorem ef_alloc {t : Nat} {z : Value} {cs : Array Value} (hz : zeroO P t = some z) (hc : z.cells = cs) : (execOp ρ ⟨dst, .alloc t, ty, pos, af, g⟩).run P w = .ok (.value (.pointer (some ⟨w.heap.size, 0, none⟩))) (w.alloc (.cells cs t)) := by
  subst hc
  simp [execOp, Instr.alloc, zeroO_run hz, newVar, newRow]
theorem ef_box {t : Nat} {x : Operand} {v : Value} {cs : Array Value} (hx : ρ x = v) (hc : v.cells = cs) : (execOp ρ ⟨dst, .box t x, ty, pos, af, g⟩).run P w = .ok (.value (.pointer (some ⟨w.heap.size, 0, none⟩))) (w.alloc (.cells cs t)) := by
  subst hc; subst hx
  simp [execOp, Instr.box, newVar, newRow]
theorem ef_map {t : Nat} : (execOp ρ ⟨dst, .makeMap t none, ty, pos, af, g⟩).run P w = .ok (.value (.map (some w.heap.size))) (w.alloc (.map #[] 0)) := by
  simp [execOp, Instr.makeMap]

/-! ### stores -/
theorem sat_setRow {i b : Nat} {cs cs' : Array Value} {t : TypeId} {fz : Nat × Nat} (h : Sat w0 w C) (hi : nth C i = some (.obj b (.cells cs t fz))) : Sat w0 (w.setRow b cs') (upd C i (.obj b (.cells cs' t fz))) :=
  (Sat.set (w' := w.setRow b cs') (h.front i hi) rfl rfl rfl (by simp) (setRow_heap w b cs cs' t fz (h.obj_at hi)) (fun k hk => setRow_other w b k cs' hk)).back hi
theorem sat_frozen {i b off : Nat} {cs : Array Value} {t : TypeId} (h : Sat w0 w C) (hi : nth C i = some (.obj b (.cells cs t (0, 0)))) : w.frozen? ⟨b, off, none⟩ = false := by
  simp [World.frozen?, h.obj_at hi]
def storeA (cs : Array Value) (off : Nat) (vs : List Value) : Array Value := (putL cs.toList off vs).toArray
theorem run_store_row {t b off : Nat} {x y : Operand} {cs : Array Value} {e : TypeId} {v : Value} {vs : List Value} (hx : ρ x = .pointer (some ⟨b, off, none⟩)) (hy : ρ y = v) (hv : v.cells.toList = vs) (hz : sizeB P t vs.length = true)
    (h1 : ∀ u ∈ vs, u.oneCell' = true) (hw : w.heap[b]? = some (.cells cs e (0, 0))) (hfit : off + vs.length ≤ cs.size) :
    (execOp ρ ⟨dst, .store t x y, ty, pos, af, g⟩).run P w = .ok .skip (w.setRow b (storeA cs off vs)) := by
  have h2 := run_storeCells_at P b off e vs 0 cs w hw (by simpa using hfit) h1
  simp only [Nat.add_zero] at h2
  have h3 : v.cells.size = vs.length := by rw [← hv]; simp
  simp [execOp, hx, hy, Instr.storeAt, Instr.sureAddr, storeVar, sizeB_run hz, h3, hv, h2, storeA, putL]
end ops

/-! ### the steps of a region in the order of its text -/
def wantedB (ops : Array Oper) (L : List (Nat × Value)) (o : Oper) : Option Bool := match o.guard with
  | none => some true
  | some (j, want) => match (ops[j]?).bind (·.dst) with
    | some t => match look L t with
      | some (.bool b) => some (b == want)
      | some (.tuple _) => some false
      | _ => none
    | none => none

section steps
variable {P : Program} {ops : Array Oper} {Q : Exit → Act → World → Prop} {rest : List Oper} {o : Oper} {a : Act} {w w' : World} {n : Shape} {d : Nat} {L : List (Nat × Value)} {v : Value}

theorem wanted_of {b : Bool} (hF : Fr a n L) (h : wantedB ops L o = some b) : Region.wanted o (yielded ops a.tmps) = b := by
  unfold wantedB at h
  unfold Region.wanted
  cases hg : o.guard with
  | none => rw [hg] at h; simpa using h
  | some jw =>
    obtain ⟨j, want⟩ := jw
    rw [hg] at h
    simp only at h ⊢
    cases hd : (ops[j]?).bind (·.dst) with
    | none => rw [hd] at h; cases h
    | some t =>
      rw [hd] at h
      simp only at h
      cases hl : look L t with
      | none => rw [hl] at h; cases h
      | some u =>
        rw [hl] at h
        cases u with
        | bool c =>
          simp only [Option.some.injEq] at h
          have hv := hF.get t _ hl
          have ht : a.tmps[t]? = some (.bool c) := by
            rw [Array.getD_eq_getD_getElem?] at hv
            cases hq : a.tmps[t]? with
            | none => rw [hq] at hv; simp [undef] at hv
            | some q => rw [hq] at hv; simpa using hv
          unfold yielded
          rw [hd]
          simp only [Option.bind_some, ht]
          rw [← h]
          cases c <;> cases want <;> rfl
        | tuple c =>
          simp only [Option.some.injEq] at h
          have hv := hF.get t _ hl
          have ht : a.tmps[t]? = some (.tuple c) ∨ a.tmps[t]? = none := by
            rw [Array.getD_eq_getD_getElem?] at hv
            cases hq : a.tmps[t]? with
            | none => exact .inr rfl
            | some q => rw [hq] at hv; left; simpa using hv
          unfold yielded
          rw [hd]
          rcases ht with ht | ht <;> simp only [Option.bind_some, ht] <;> rw [← h] <;> rfl
        | _ => cases h

theorem s_pu (hF : Fr a n L) (hg : wantedB ops L o = some true) (hd : o.dst = some d) (hn : Nat.blt d n.size = true) (h : Pu P a.eval o v) (k : ∀ a', Fr a' n ((d, v) :: L) → wpList P ops Q rest a' w) : wpList P ops Q (o :: rest) a w :=
  wpList_step fun K hK => by
    rw [wanted_of hF hg, if_pos rfl]
    unfold Oper.wp
    rw [h w, Oper.upon_value, hd]
    exact hK _ _ (k _ (hF.put hn v))
theorem s_rd (hF : Fr a n L) (hg : wantedB ops L o = some true) (hd : o.dst = some d) (hn : Nat.blt d n.size = true) (h : Rd P a.eval w o v) (k : ∀ a', Fr a' n ((d, v) :: L) → wpList P ops Q rest a' w) : wpList P ops Q (o :: rest) a w :=
  wpList_step fun K hK => by
    rw [wanted_of hF hg, if_pos rfl]
    unfold Oper.wp
    rw [h, Oper.upon_value, hd]
    exact hK _ _ (k _ (hF.put hn v))
/-- A value, and another world. -/
theorem s_ev (hF : Fr a n L) (hg : wantedB ops L o = some true) (hd : o.dst = some d) (hn : Nat.blt d n.size = true) (h : (execOp a.eval o).run P w = .ok (.value v) w') (k : ∀ a', Fr a' n ((d, v) :: L) → wpList P ops Q rest a' w') : wpList P ops Q (o :: rest) a w :=
  wpList_step fun K hK => by
    rw [wanted_of hF hg, if_pos rfl]
    unfold Oper.wp
    rw [h, Oper.upon_value, hd]
    exact hK _ _ (k _ (hF.put hn v))
theorem s_ev0 (hF : Fr a n L) (hg : wantedB ops L o = some true) (hd : o.dst = none) (h : (execOp a.eval o).run P w = .ok (.value v) w') (k : wpList P ops Q rest a w') : wpList P ops Q (o :: rest) a w :=
  wpList_step fun K hK => by
    rw [wanted_of hF hg, if_pos rfl]
    unfold Oper.wp
    rw [h, Oper.upon_value, hd]
    exact hK _ _ k
theorem s_sk (hF : Fr a n L) (hg : wantedB ops L o = some true) (hd : o.dst = none) (h : (execOp a.eval o).run P w = .ok .skip w') (k : wpList P ops Q rest a w') : wpList P ops Q (o :: rest) a w :=
  wpList_step fun K hK => by
    rw [wanted_of hF hg, if_pos rfl]
    unfold Oper.wp
    rw [h, Oper.upon_skip, hd]
    exact hK _ _ k
/-- A call. -/
theorem s_en {f : FuncId} {args : Array Value} {R : Ending → World → Prop} (hF : Fr a n L) (hg : wantedB ops L o = some true) (hd : o.dst = some d) (hn : Nat.blt d n.size = true) (h : (execOp a.eval o).run P w = .ok (.enter f args) w)
    (hc : Calls P f args w R) (k : ∀ e w', R e w' → ∃ v, e = .returned v ∧ ∀ a', Fr a' n ((d, v) :: L) → wpList P ops Q rest a' w') : wpList P ops Q (o :: rest) a w :=
  wpList_step fun K hK => by
    rw [wanted_of hF hg, if_pos rfl]
    unfold Oper.wp
    rw [h, Oper.upon_enter, hd]
    refine hc.mono fun e w' hR => ?_
    obtain ⟨v, rfl, k'⟩ := k e w' hR
    exact hK _ _ (k' _ (hF.put hn v))
theorem s_en0 {f : FuncId} {args : Array Value} {R : Ending → World → Prop} (hF : Fr a n L) (hg : wantedB ops L o = some true) (hd : o.dst = none) (h : (execOp a.eval o).run P w = .ok (.enter f args) w)
    (hc : Calls P f args w R) (k : ∀ e w', R e w' → ∃ v, e = .returned v ∧ wpList P ops Q rest a w') : wpList P ops Q (o :: rest) a w :=
  wpList_step fun K hK => by
    rw [wanted_of hF hg, if_pos rfl]
    unfold Oper.wp
    rw [h, Oper.upon_enter, hd]
    refine hc.mono fun e w' hR => ?_
    obtain ⟨v, rfl, k'⟩ := k e w' hR
    exact hK _ _ k'
/-- Passed by: its guard says no. -/
theorem s_no (hF : Fr a n L) (hg : wantedB ops L o = some false) (hd : o.dst = some d) (hn : Nat.blt d n.size = true) (k : ∀ a', Fr a' n ((d, undef) :: L) → wpList P ops Q rest a' w) : wpList P ops Q (o :: rest) a w :=
  wpList_step fun K hK => by
    rw [wanted_of hF hg, if_neg (by simp), hd]
    exact hK _ _ (k _ (hF.put hn _))
theorem s_no0 (hF : Fr a n L) (hg : wantedB ops L o = some false) (hd : o.dst = none) (k : wpList P ops Q rest a w) : wpList P ops Q (o :: rest) a w :=
  wpList_step fun K hK => by
    rw [wanted_of hF hg, if_neg (by simp), hd]
    exact hK _ _ k
/-- The value of a truth is looked at: slot t. -/
theorem fr_bool {t : Nat} {b c : Bool} (hF : Fr a n L) (hl : look L t = some (.bool b)) (h : b = c) : Fr a n ((t, .bool c) :: L) := by
  subst h
  refine ⟨hF.size, hF.defers, fun s u hu => ?_⟩
  by_cases e : t = s
  · subst e
    rw [look_cons_eq] at hu
    exact hF.get _ _ (hl.trans hu)
  · rw [look_cons_ne e] at hu
    exact hF.get _ _ hu
theorem s_done (h : Q .normal a w) : wpList P ops Q [] a w := h

theorem run_call {f : FuncId} {fn : Func} {ρ : Operand → Value} {xs : Array Operand} {ts : Array TypeId} {vs : List Value} {x : Operand} {caps : Array Value} {dst : Option Tmp} {ty : TypeId} {pos : String} {af : Array Edge} {g : Option (Nat × Bool)}
    (hf : P.funcs[f]? = some fn) (hb : fn.body.isNone = false) (hm : (fn.name == "runtime.NumGoroutine") = false) (hx : ρ x = .func (.func f) #[] caps) (hv : xs.toList.map ρ = vs) :
    (execOp ρ ⟨dst, .call { callee := .value x, args := xs, argTypes := ts }, ty, pos, af, g⟩).run P w = .ok (.enter f (vs.toArray ++ caps)) w := by
  have hv' : xs.map ρ = vs.toArray := by apply Array.ext'; simpa using hv
  simp only [execOp, resolve, hx, Deferred.ofValue, Sem.run_bind, hv', Array.empty_append]
  have e : (program).run P w = .ok P w := rfl
  simp only [Sem.run_pure, Result.andThen_ok, invoke, callFunc, Sem.run_bind, e, hf, hm, hb, Bool.false_eq_true, if_false]
/-- A function with a body. -/
def FnB (P : Program) (f : FuncId) : Prop := ∃ fn, P.funcs[f]? = some fn ∧ fn.body.isNone = false ∧ (fn.name == "runtime.NumGoroutine") = false
theorem run_fn {f : FuncId} {ρ : Operand → Value} {xs : Array Operand} {ts : Array TypeId} {vs : List Value} {x : Operand} {caps : Array Value} {dst : Option Tmp} {ty : TypeId} {pos : String} {af : Array Edge} {g : Option (Nat × Bool)}
    (hf : FnB P f) (hx : ρ x = .func (.func f) #[] caps) (hv : xs.toList.map ρ = vs) :
    (execOp ρ ⟨dst, .call { callee := .value x, args := xs, argTypes := ts }, ty, pos, af, g⟩).run P w = .ok (.enter f (vs ++ caps.toList).toArray) w := by
  obtain ⟨_, h1, h2, h3⟩ := hf
  have e : vs.toArray ++ caps = (vs ++ caps.toList).toArray := by apply Array.ext'; simp
  rw [← e]
  exact run_call h1 h2 h3 hx hv
end steps

/-! ### a region that draws its order: its operations in an order of ours -/
inductive How where
  | pu | tk | on | ls | fk
  deriving DecidableEq
def lst (n : Nat) (ord : List (Nat × How)) (i : Nat) : Array Bool := (ord.take i).foldl (fun acc p => acc.setIfInBounds p.1 true) (Array.replicate n false)
def chk1 (ops : Array Oper) (ds : List Nat) (l l' : Array Bool) : Nat × How → Bool
  | (j, .pu) => anyB .any ops l l' j
  | (j, .tk) => takeB .any ops ds l l' j
  | (j, .on) => readyB .any ops l l' j && !ds.contains j
  | (j, .ls) => readyB .any ops l l' j && ds.contains j
  | (j, .fk) => l.setIfInBounds j true == l'
def chk (ops : Array Oper) (ds : List Nat) (ord : List (Nat × How)) : Bool :=
  (ord.length == ops.size) && ((List.range ord.length).all fun i => match ord[i]? with | some p => chk1 ops ds (lst ops.size ord i) (lst ops.size ord (i + 1)) p | none => false) && (Region.ready .any ops (lst ops.size ord ops.size) == [])

structure Drawn (P : Program) (ops : Array Oper) (Q : Exit → Act → World → Prop) (S : World → Prop) (ds : List Nat) (ord : List (Nat × How)) : Prop where
  ok : chk ops ds ord = true
  quit : ∀ c d v a w, Q (.panic c) (a.put d v) w → Q (.panic c) a w
def wpD (P : Program) (ops : Array Oper) (Q : Exit → Act → World → Prop) (S : World → Prop) (ds : List Nat) (ord : List (Nat × How)) (i : Nat) (a : Act) (w : World) : Prop :=
  wpAnyLast P .any ops Q S ds (ops.size - i) (lst ops.size ord i) a w

section drawn
variable {P : Program} {ops : Array Oper} {Q : Exit → Act → World → Prop} {S : World → Prop} {ds : List Nat} {ord : List (Nat × How)} {i j : Nat} {o : Oper} {a : Act} {w w' : World} {n : Shape} {d : Nat} {L : List (Nat × Value)} {v : Value}

theorem chk_at {p : Nat × How} (h : chk ops ds ord = true) (hp : ord[i]? = some p) : chk1 ops ds (lst ops.size ord i) (lst ops.size ord (i + 1)) p = true ∧ i < ops.size := by
  simp only [chk, Bool.and_eq_true, beq_iff_eq] at h
  have hi : i < ord.length := (List.getElem?_eq_some_iff.1 hp).1
  have := List.all_eq_true.1 h.1.2 i (List.mem_range.2 hi)
  rw [hp] at this
  exact ⟨this, by rw [← h.1.1]; exact hi⟩

theorem d_start {id : Nat} (hm : P.follows .mixedOrders = true) (hD : Drawn P ops Q S ds ord) (hS : S w.drew) (k : Drawn P ops Q S ds ord → wpD P ops Q S ds ord 0 a w.drew) : (Code.region id ops true).wp P Q a w :=
  start_ (n := ops.size) (lst ops.size ord 0) hm rfl (by simp [lst]) hS (fun _ => by simpa [wpD] using k hD)
theorem d_pu (hD : Drawn P ops Q S ds ord) (hF : Fr a n L) (hp : ord[i]? = some (j, .pu)) (ho : ops[j]? = some o) (hg : wantedB ops L o = some true) (hd : o.dst = some d) (hn : Nat.blt d n.size = true) (h : Pu P a.eval o v)
    (k : ∀ a', Fr a' n ((d, v) :: L) → wpD P ops Q S ds ord (i + 1) a' w) : wpD P ops Q S ds ord i a w := by
  obtain ⟨hc, hi⟩ := chk_at hD.ok hp
  unfold wpD
  rw [show ops.size - i = (ops.size - (i + 1)) + 1 by omega]
  exact pure_ (lst ops.size ord (i + 1)) ho hd hc (fun c a w h => hD.quit c _ _ a w h) (Or.inl ⟨wanted_of hF hg, h⟩) rfl (k _ (hF.put hn v))
/-- Passed by. -/
theorem d_no (hD : Drawn P ops Q S ds ord) (hF : Fr a n L) (hp : ord[i]? = some (j, .pu)) (ho : ops[j]? = some o) (hg : wantedB ops L o = some false) (hd : o.dst = some d) (hn : Nat.blt d n.size = true)
    (k : ∀ a', Fr a' n ((d, undef) :: L) → wpD P ops Q S ds ord (i + 1) a' w) : wpD P ops Q S ds ord i a w := by
  obtain ⟨hc, hi⟩ := chk_at hD.ok hp
  unfold wpD
  rw [show ops.size - i = (ops.size - (i + 1)) + 1 by omega]
  exact pure_ (lst ops.size ord (i + 1)) ho hd hc (fun c a w h => hD.quit c _ _ a w h) (Or.inr ⟨wanted_of hF hg, rfl⟩) rfl (k _ (hF.put hn _))
theorem d_rd (hD : Drawn P ops Q S ds ord) (hF : Fr a n L) (hp : ord[i]? = some (j, .tk)) (ho : ops[j]? = some o) (hg : wantedB ops L o = some true) (hd : o.dst = some d) (hn : Nat.blt d n.size = true) (hS : S w) (h : ∀ w, S w → Rd P a.eval w o v)
    (k : ∀ a', Fr a' n ((d, v) :: L) → wpD P ops Q S ds ord (i + 1) a' w) : wpD P ops Q S ds ord i a w := by
  obtain ⟨hc, hi⟩ := chk_at hD.ok hp
  unfold wpD
  rw [show ops.size - i = (ops.size - (i + 1)) + 1 by omega]
  exact take_ (lst ops.size ord (i + 1)) ho hd hc (fun c a w h => hD.quit c _ _ a w h) (Or.inl ⟨wanted_of hF hg, h⟩) hS rfl (k _ (hF.put hn v))
/-- Passed by (an operation that would read). -/
theorem d_nord (hD : Drawn P ops Q S ds ord) (hF : Fr a n L) (hp : ord[i]? = some (j, .tk)) (ho : ops[j]? = some o) (hg : wantedB ops L o = some false) (hd : o.dst = some d) (hn : Nat.blt d n.size = true) (hS : S w)
    (k : ∀ a', Fr a' n ((d, undef) :: L) → wpD P ops Q S ds ord (i + 1) a' w) : wpD P ops Q S ds ord i a w := by
  obtain ⟨hc, hi⟩ := chk_at hD.ok hp
  unfold wpD
  rw [show ops.size - i = (ops.size - (i + 1)) + 1 by omega]
  exact take_ (lst ops.size ord (i + 1)) ho hd hc (fun c a w h => hD.quit c _ _ a w h) (Or.inr ⟨wanted_of hF hg, rfl⟩) hS rfl (k _ (hF.put hn _))
/-- A value and another world, in which S holds still. -/
theorem d_ev (hD : Drawn P ops Q S ds ord) (hF : Fr a n L) (hp : ord[i]? = some (j, .on)) (ho : ops[j]? = some o) (hg : wantedB ops L o = some true) (hd : o.dst = some d) (hn : Nat.blt d n.size = true) (h : (execOp a.eval o).run P w = .ok (.value v) w')
    (hS : S w') (k : ∀ a', Fr a' n ((d, v) :: L) → wpD P ops Q S ds ord (i + 1) a' w') : wpD P ops Q S ds ord i a w := by
  obtain ⟨hc, hi⟩ := chk_at hD.ok hp
  simp only [chk1, Bool.and_eq_true] at hc
  unfold wpD
  rw [show ops.size - i = (ops.size - (i + 1)) + 1 by omega]
  refine one_ (lst ops.size ord (i + 1)) ho hd hc.1 (by simpa using hc.2) fun K hK => ?_
  rw [wanted_of hF hg, if_pos rfl]
  unfold Oper.wp
  rw [h, Oper.upon_value, hd]
  exact hK _ _ hS fun _ => k _ (hF.put hn v)
theorem d_sk (hD : Drawn P ops Q S ds ord) (hF : Fr a n L) (hp : ord[i]? = some (j, .on)) (ho : ops[j]? = some o) (hg : wantedB ops L o = some true) (hd : o.dst = none) (h : (execOp a.eval o).run P w = .ok .skip w')
    (hS : S w') (k : wpD P ops Q S ds ord (i + 1) a w') : wpD P ops Q S ds ord i a w := by
  obtain ⟨hc, hi⟩ := chk_at hD.ok hp
  simp only [chk1, Bool.and_eq_true] at hc
  unfold wpD
  rw [show ops.size - i = (ops.size - (i + 1)) + 1 by omega]
  refine one_ (lst ops.size ord (i + 1)) ho hd hc.1 (by simpa using hc.2) fun K hK => ?_
  rw [wanted_of hF hg, if_pos rfl]
  unfold Oper.wp
  rw [h, Oper.upon_skip, hd]
  exact hK _ _ hS fun _ => k
theorem d_en {f : FuncId} {args : Array Value} {R : Ending → World → Prop} (hD : Drawn P ops Q S ds ord) (hF : Fr a n L) (hp : ord[i]? = some (j, .on)) (ho : ops[j]? = some o) (hg : wantedB ops L o = some true) (hd : o.dst = some d) (hn : Nat.blt d n.size = true)
    (h : (execOp a.eval o).run P w = .ok (.enter f args) w) (hc : Calls P f args w R) (k : ∀ e w', R e w' → ∃ v, e = .returned v ∧ S w' ∧ ∀ a', Fr a' n ((d, v) :: L) → wpD P ops Q S ds ord (i + 1) a' w') : wpD P ops Q S ds ord i a w := by
  obtain ⟨hk, hi⟩ := chk_at hD.ok hp
  simp only [chk1, Bool.and_eq_true] at hk
  unfold wpD
  rw [show ops.size - i = (ops.size - (i + 1)) + 1 by omega]
  refine one_ (lst ops.size ord (i + 1)) ho hd hk.1 (by simpa using hk.2) fun K hK => ?_
  rw [wanted_of hF hg, if_pos rfl]
  unfold Oper.wp
  rw [h, Oper.upon_enter, hd]
  refine hc.mono fun e w' hR => ?_
  obtain ⟨v, rfl, hS, k'⟩ := k e w' hR
  exact hK _ _ hS fun _ => k' _ (hF.put hn v)
/-- The last ones: S is shown no more. -/
theorem l_ev (hD : Drawn P ops Q S ds ord) (hF : Fr a n L) (hp : ord[i]? = some (j, .ls)) (ho : ops[j]? = some o) (hg : wantedB ops L o = some true) (hd : o.dst = some d) (hn : Nat.blt d n.size = true) (h : (execOp a.eval o).run P w = .ok (.value v) w')
    (k : ∀ a', Fr a' n ((d, v) :: L) → wpD P ops Q S ds ord (i + 1) a' w') : wpD P ops Q S ds ord i a w := by
  obtain ⟨hc, hi⟩ := chk_at hD.ok hp
  simp only [chk1, Bool.and_eq_true] at hc
  unfold wpD
  rw [show ops.size - i = (ops.size - (i + 1)) + 1 by omega]
  refine last_ (lst ops.size ord (i + 1)) ho hd hc.1 (by simpa using hc.2) fun K hK => ?_
  rw [wanted_of hF hg, if_pos rfl]
  unfold Oper.wp
  rw [h, Oper.upon_value, hd]
  exact hK _ _ (k _ (hF.put hn v))
theorem l_ev0 (hD : Drawn P ops Q S ds ord) (hF : Fr a n L) (hp : ord[i]? = some (j, .ls)) (ho : ops[j]? = some o) (hg : wantedB ops L o = some true) (hd : o.dst = none) (h : (execOp a.eval o).run P w = .ok (.value v) w')
    (k : wpD P ops Q S ds ord (i + 1) a w') : wpD P ops Q S ds ord i a w := by
  obtain ⟨hc, hi⟩ := chk_at hD.ok hp
  simp only [chk1, Bool.and_eq_true] at hc
  unfold wpD
  rw [show ops.size - i = (ops.size - (i + 1)) + 1 by omega]
  refine last_ (lst ops.size ord (i + 1)) ho hd hc.1 (by simpa using hc.2) fun K hK => ?_
  rw [wanted_of hF hg, if_pos rfl]
  unfold Oper.wp
  rw [h, Oper.upon_value, hd]
  exact hK _ _ k
theorem l_sk (hD : Drawn P ops Q S ds ord) (hF : Fr a n L) (hp : ord[i]? = some (j, .ls)) (ho : ops[j]? = some o) (hg : wantedB ops L o = some true) (hd : o.dst = none) (h : (execOp a.eval o).run P w = .ok .skip w')
    (k : wpD P ops Q S ds ord (i + 1) a w') : wpD P ops Q S ds ord i a w := by
  obtain ⟨hc, hi⟩ := chk_at hD.ok hp
  simp only [chk1, Bool.and_eq_true] at hc
  unfold wpD
  rw [show ops.size - i = (ops.size - (i + 1)) + 1 by omega]
  refine last_ (lst ops.size ord (i + 1)) ho hd hc.1 (by simpa using hc.2) fun K hK => ?_
  rw [wanted_of hF hg, if_pos rfl]
  unfold Oper.wp
  rw [h, Oper.upon_skip, hd]
  exact hK _ _ k
theorem l_en {f : FuncId} {args : Array Value} {R : Ending → World → Prop} (hD : Drawn P ops Q S ds ord) (hF : Fr a n L) (hp : ord[i]? = some (j, .ls)) (ho : ops[j]? = some o) (hg : wantedB ops L o = some true) (hd : o.dst = some d) (hn : Nat.blt d n.size = true)
    (h : (execOp a.eval o).run P w = .ok (.enter f args) w) (hc : Calls P f args w R) (k : ∀ e w', R e w' → ∃ v, e = .returned v ∧ ∀ a', Fr a' n ((d, v) :: L) → wpD P ops Q S ds ord (i + 1) a' w') : wpD P ops Q S ds ord i a w := by
  obtain ⟨hk, hi⟩ := chk_at hD.ok hp
  simp only [chk1, Bool.and_eq_true] at hk
  unfold wpD
  rw [show ops.size - i = (ops.size - (i + 1)) + 1 by omega]
  refine last_ (lst ops.size ord (i + 1)) ho hd hk.1 (by simpa using hk.2) fun K hK => ?_
  rw [wanted_of hF hg, if_pos rfl]
  unfold Oper.wp
  rw [h, Oper.upon_enter, hd]
  refine hc.mono fun e w' hR => ?_
  obtain ⟨v, rfl, k'⟩ := k e w' hR
  exact hK _ _ (k' _ (hF.put hn v))
theorem d_done (hD : Drawn P ops Q S ds ord) (hi : ops.size = i) (h : Q .normal a w) : wpD P ops Q S ds ord i a w := by
  subst hi
  have := hD.ok
  simp only [chk, Bool.and_eq_true] at this
  exact done_ this.2 h
end drawn

/-! ### ways in, ways out, rounds -/
section ways
variable {P : Program} {f : FuncId} {fn : Func} {c : Code} {args : Array Value} {w : World} {R : Ending → World → Prop} {n : Shape} {a : Act} {L : List (Nat × Value)} {Q : Exit → Act → World → Prop}

theorem enter {n : Nat} (hf : P.funcs[f]? = some fn) (hb : fn.body = some c) (hn : fn.ntmps = n) (hs : args.size ≤ n) (h : ∀ a, Fr a ⟨n, []⟩ (enumL 0 args.toList) → c.wp P (bodyPost P fn R) a w) : Calls P f args w R :=
  calls_of_wp hf hb (h _ (by subst hn; exact fr_start hs))
theorem fin0 (hr : fn.results = #[]) (hF : Fr a n L) (hR : R (.returned (.tuple #[])) w) (hm : n.marks = [] := by rfl) : bodyPost P fn R .normal a w := bodyPost_end (results_none hr _ _ _) (hF.done hm) hR
theorem fin0r (hr : fn.results = #[]) (hF : Fr a n L) (hR : R (.returned (.tuple #[])) w) (hm : n.marks = [] := by rfl) : bodyPost P fn R .ret a w := bodyPost_ret (results_none hr _ _ _) (hF.done hm) hR
theorem fin1 {t : Nat} {v : Value} (hr : fn.results = #[.tmp t]) (hF : Fr a n L) (hv : look L t = some v) (hR : R (.returned v) w) (hm : n.marks = [] := by rfl) : bodyPost P fn R .ret a w :=
  bodyPost_ret (results_tmp hr _ _ _) (hF.done hm) (by rw [hF.get _ _ hv]; exact hR)
theorem fin2 {t s : Nat} {u v : Value} (hr : fn.results = #[.tmp t, .tmp s]) (hF : Fr a n L) (hu : look L t = some u) (hv : look L s = some v) (hR : R (.returned (.tuple #[u, v])) w) (hm : n.marks = [] := by rfl) : bodyPost P fn R .ret a w :=
  bodyPost_ret (results_tmp2 hr _ _ _) (hF.done hm) (by rw [hF.get _ _ hv, hF.get _ _ hu]; exact hR)
theorem fin3 {t s r : Nat} {u v x : Value} (hr : fn.results = #[.tmp t, .tmp s, .tmp r]) (hF : Fr a n L) (hu : look L t = some u) (hv : look L s = some v) (hx : look L r = some x) (hR : R (.returned (.tuple #[u, v, x])) w) (hm : n.marks = [] := by rfl) : bodyPost P fn R .ret a w :=
  bodyPost_ret (v := .tuple #[u, v, x]) (by
    have h1 := hF.get _ _ hu
    have h2 := hF.get _ _ hv
    have h3 := hF.get _ _ hx
    simp only [Array.getD_eq_getD_getElem?] at h1 h2 h3
    simp [results, hr, h1, h2, h3]) (hF.done hm) hR

theorem least {p : Nat → Prop} (h : ∃ k, p k) : ∃ k, p k ∧ ∀ j, p j → k ≤ j := by
  obtain ⟨k, hk⟩ := h
  induction k using Nat.strongRecOn with
  | _ k ih =>
    by_cases h : ∃ j, j < k ∧ p j
    · obtain ⟨j, hj, hp⟩ := h
      exact ih j hj hp
    · exact ⟨k, hk, fun j hj => Nat.le_of_not_lt fun hlt => h ⟨j, hlt, hj⟩⟩
theorem wp_ind (I : Nat → Act → World → Prop) (k0 : Nat) (h0 : I k0 a w) (hs : ∀ k a w, I k a w → c.wp P (Exit.then (fun a' w' => ∃ k', k' < k ∧ I k' a' w') Q) a w) : (Code.loop c).wp P Q a w := by
  classical
  refine wp_loop (fun a w => ∃ k, I k a w) (fun a w => if h : ∃ k, I k a w then Classical.choose (least h) else 0) ⟨k0, h0⟩ fun a w hI => ?_
  have hk := Classical.choose_spec (least hI)
  refine wp_mono (hs _ a w hk.1) fun e a' w' hq => ?_
  cases e with
  | normal =>
    obtain ⟨k', hlt, hI'⟩ := hq
    refine ⟨⟨k', hI'⟩, ?_⟩
    rw [dif_pos ⟨k', hI'⟩, dif_pos hI]
    exact Nat.lt_of_le_of_lt ((Classical.choose_spec (least ⟨k', hI'⟩)).2 k' hI') hlt
  | _ => exact hq
end ways
end Go.Proofs.Ytbfdebddoncfhaa.Sk
/-! Sk, part four: rows of one's own: append, elements, made rows. -/
namespace Go.Proofs.Ytbfdebddoncfhaa.Sk
open Go Go.RowKit
set_option linter.unusedVariables false
set_option linter.unusedSimpArgs false

/-- The slice value v of n elements (type E, sz cells each) has a block to itself; xs: the elements' cells. -/
def rowC (E sz : Nat) (v : Value) (n : Nat) (xs : List Value) : Chunk := .pr fun f => xs.length = n * sz ∧
  ((v = .slice none 0 0 ∧ n = 0 ∧ f = fun _ => none) ∨
   ∃ g cap cur, v = .slice (some ⟨g, 0, none⟩) n cap ∧ n ≤ cap ∧ cap ≤ maxLen ∧ cur.size = cap * sz ∧ cur.toList.take (n * sz) = xs ∧ (Chunk.obj g (.cells cur E (0, 0))).holds f)

section rows
variable {w0 w : World} {C : List Chunk} {E sz : Nat} {v : Value} {n : Nat} {xs : List Value}

theorem row_open (h : Sat w0 w (rowC E sz v n xs :: C)) : xs.length = n * sz ∧
    ((v = .slice none 0 0 ∧ n = 0 ∧ Sat w0 w C) ∨
     ∃ g cap cur, v = .slice (some ⟨g, 0, none⟩) n cap ∧ n ≤ cap ∧ cap ≤ maxLen ∧ cur.size = cap * sz ∧ cur.toList.take (n * sz) = xs ∧ Sat w0 w (.obj g (.cells cur E (0, 0)) :: C)) := by
  have ht := h.tail
  obtain ⟨f, hf, hs⟩ := h.own
  obtain ⟨g1, k, hg, hk, ha, rfl⟩ := made_cons.1 hf
  obtain ⟨hl, hg⟩ := hg
  refine ⟨hl, ?_⟩
  rcases hg with ⟨hv, hn, _⟩ | ⟨g, cap, cur, hv, h1, h2, h3, h4, h5⟩
  · exact .inl ⟨hv, hn, ht⟩
  · exact .inr ⟨g, cap, cur, hv, h1, h2, h3, h4, h.os, h.tape, h.output, h.size, _, .cons h5 hk ha, hs⟩
theorem row_nil (h : Sat w0 w C) : Sat w0 w (rowC E sz (.slice none 0 0) 0 [] :: C) := by
  obtain ⟨f, hf, hs⟩ := h.own
  have e : join (fun _ => none) f = f := by funext i; rfl
  exact ⟨h.os, h.tape, h.output, h.size, join (fun _ => none) f, .cons ⟨by simp, .inl ⟨rfl, rfl, rfl⟩⟩ hf (fun _ => .inl rfl), by rw [e]; exact hs⟩
theorem row_shut {g cap : Nat} {cur : Array Value} (h : Sat w0 w (.obj g (.cells cur E (0, 0)) :: C)) (h1 : n ≤ cap) (h2 : cap ≤ maxLen) (h3 : cur.size = cap * sz) (h4 : cur.toList.take (n * sz) = xs) :
    Sat w0 w (rowC E sz (.slice (some ⟨g, 0, none⟩) n cap) n xs :: C) := by
  obtain ⟨f, hf, hs⟩ := h.own
  obtain ⟨g1, k, hg, hk, ha, rfl⟩ := made_cons.1 hf
  refine ⟨h.os, h.tape, h.output, h.size, _, .cons ⟨?_, .inr ⟨g, cap, cur, rfl, h1, h2, h3, h4, hg⟩⟩ hk ha, hs⟩
  rw [← h4, List.length_take]
  have : n * sz ≤ cap * sz := Nat.mul_le_mul_right _ h1
  simp; omega
theorem row_len (h : Sat w0 w (rowC E sz v n xs :: C)) : xs.length = n * sz := (row_open h).1
/-- What a slice of one's own looks like. -/
theorem row_val (h : Sat w0 w (rowC E sz v n xs :: C)) : ∃ A c, v = .slice A n c ∧ n ≤ c ∧ (A = none → n = 0 ∧ c = 0) := by
  rcases (row_open h).2 with ⟨rfl, rfl, _⟩ | ⟨g, cap, cur, rfl, h1, _⟩
  · exact ⟨none, 0, rfl, Nat.le_refl _, fun _ => ⟨rfl, rfl⟩⟩
  · exact ⟨_, cap, rfl, h1, fun h => by cases h⟩
/-- An element's address and its cells. -/
theorem row_cell (h : Sat w0 w (rowC E sz v n xs :: C)) (hn : 0 < n) : ∃ g c, v = .slice (some ⟨g, 0, none⟩) n c ∧ n ≤ c ∧ ∀ j u, xs[j]? = some u → w.cell? ⟨g, j, none⟩ = some u := by
  rcases (row_open h).2 with ⟨_, rfl, _⟩ | ⟨g, cap, cur, rfl, h1, _, h3, h4, h5⟩
  · omega
  · refine ⟨g, cap, rfl, h1, fun j u hj => ?_⟩
    have h6 := h5.obj
    rw [← h4, List.getElem?_take] at hj
    split at hj
    · simp [World.cell?, h6]
      simpa using hj
    · cases hj

/-- Element k's cells, of a row that is told at place i. -/
theorem row_load {i g c k : Nat} {cs : List Value} (h : Sat w0 w C) (hi : nth C i = some (rowC E sz (.slice (some ⟨g, 0, none⟩) n c) n xs)) (hn : 0 < n) (hc : ∀ j v, cs[j]? = some v → xs[k * sz + j]? = some v) :
    ∀ j v, cs[j]? = some v → w.cell? ⟨g, 0 + (k : Int).toNat * sz + j, none⟩ = some v := by
  intro j v hj
  obtain ⟨g', c', e, _, hh⟩ := row_cell (h.front i hi) hn
  injection e with e _ _
  injection e with e
  injection e with e
  subst e
  have := hh _ _ (hc j v hj)
  rw [Int.toNat_natCast, Nat.zero_add]
  exact this

def elemB (P : Program) (E sz by_ : Nat) : Bool := match P.info? E with
  | some i => i.size == sz && i.bytes == by_ && (match i.zero with | some z => z.cells.size == sz | none => false)
  | none => false
theorem elemB_spec {P : Program} {E sz by_ : Nat} (h : elemB P E sz by_ = true) : ∃ i z, P.info? E = some i ∧ i.size = sz ∧ i.bytes = by_ ∧ i.zero = some z ∧ z.cells.size = sz := by
  unfold elemB at h
  split at h
  · rename_i i hi
    simp only [Bool.and_eq_true, beq_iff_eq] at h
    obtain ⟨⟨h1, h2⟩, h3⟩ := h
    split at h3
    · rename_i z hz
      exact ⟨i, z, hi, h1, h2, hz, by simpa using h3⟩
    · cases h3
  · cases h

theorem size_zeroC (z : Array Value) (n : Nat) : (Builtin.zeroCells z n).size = n * z.size := by simp [Builtin.zeroCells]

/-- append: the row grows by m elements, whose cells are 'news'. -/
theorem run_append_row {P : Program} {t ty by_ : Nat} {A : Addr} {m c : Nat} {news : List Value} (ht : sliceB P t E sz = true) (he : elemB P E sz by_ = true) (h : Sat w0 w (rowC E sz v n xs :: C))
    (hl : news.length = m * sz) (hnews : ∀ j u, news[j]? = some u → w.cell? (A.add j) = some u) (h1 : ∀ u ∈ news, u.oneCell' = true) (h63 : n + m ≤ maxLen) (hby : (n + m) * by_ ≤ 140737488355328) :
    ∃ v' w', (Builtin.append_ #[t, t] ty #[v, .slice (some A) m c]).run P w = .ok v' w' ∧ Sat w0 w' (rowC E sz v' (n + m) (xs ++ news) :: C) := by
  obtain ⟨hu, _⟩ := sliceB_spec ht
  obtain ⟨i, z, hi, hs, hb, hz, hzs⟩ := elemB_spec he
  subst hs
  subst hb
  obtain ⟨hx, hcase⟩ := row_open h
  have h63' : n + m ≤ 9223372036854775807 := by simp only [maxLen] at h63; omega
  have fresh : ∀ (old : Nat) (W : World), old < n + m → Sat w0 W C → Sat w0 (W.alloc (.cells (xs.toArray ++ news.toArray ++ Builtin.zeroCells z.cells (grownCap w (n + m) old E - (n + m))) E))
      (rowC E i.size (.slice (some ⟨W.heap.size, 0, none⟩) (n + m) (grownCap w (n + m) old E)) (n + m) (xs ++ news) :: C) := by
    intro old W ho hW
    have hge := grownCap_ge w (n + m) old E
    refine row_shut (hW.new (o := .cells (xs.toArray ++ news.toArray ++ Builtin.zeroCells z.cells (grownCap w (n + m) old E - (n + m))) E)) hge (grownCap_le_maxLen w (n + m) old E h63) ?_ ?_
    · simp only [Array.size_append, List.size_toArray, size_zeroC, hzs, hx, hl, ← Nat.add_mul]
      congr 1; omega
    · simp only [Array.toList_append, List.append_assoc]
      have : (xs ++ news).length = (n + m) * i.size := by rw [List.length_append, hx, hl, Nat.add_mul]
      rw [← List.append_assoc, ← this]
      exact List.take_left
  rcases hcase with ⟨rfl, rfl, hC⟩ | ⟨g, cap, cur, rfl, hnc, hcm, hcs, htake, hC⟩
  · have hx0 : xs = [] := List.eq_nil_of_length_eq_zero (by simpa using hx)
    subst hx0
    by_cases hm : m = 0
    · subst hm
      have hn : news = [] := List.eq_nil_of_length_eq_zero (by simpa using hl)
      subst hn
      refine ⟨.slice none 0 0, w, ?_, row_nil hC⟩
      simp [Builtin.append_, run_underlying hu, sizeOf, typeInfo, hi, Builtin.lenOf, Builtin.firstCells, loadCells, loadCellsFrom]
    · have hr := run_append_nil (P := P) w t ty E i z hu hi hz A m c news hl hnews (by omega) (by omega) (by have hb := hby; simp only [Nat.zero_add] at hb; omega)
      have hf := fresh 0 w.drew (by omega) hC.drew
      simp only [Nat.zero_add, List.nil_append, Array.empty_append] at hf ⊢
      exact ⟨_, _, hr, hf⟩
  · by_cases hroom : n + m ≤ cap
    · have hfit : n * i.size + news.length ≤ cur.size := by rw [hl, hcs, ← Nat.add_mul]; exact Nat.mul_le_mul_right _ hroom
      have hr := run_append_room (P := P) w t ty E i hu hi g n cap cur hC.obj A m c news hl hnews h1 hroom hfit
      refine ⟨_, _, hr, row_shut (sat_setRow (i := 0) hC rfl) hroom hcm ?_ ?_⟩
      · simp only [List.size_toArray, List.length_append, List.length_take, List.length_drop, Array.length_toList]
        omega
      · have : (xs ++ news).length = (n + m) * i.size := by rw [List.length_append, hx, hl, Nat.add_mul]
        rw [htake, ← this]
        simp only [List.append_assoc]
        rw [← List.append_assoc]
        exact List.take_left
    · have holds : ∀ j u, xs[j]? = some u → w.cell? ((⟨g, 0, none⟩ : Addr).add j) = some u := by
        intro j u hj
        rw [addr_add, Nat.zero_add]
        rw [← htake, List.getElem?_take] at hj
        split at hj
        · simp [World.cell?, hC.obj]
          simpa using hj
        · cases hj
      have hr := run_append_grow (P := P) w t ty E i z hu hi hz ⟨g, 0, none⟩ n cap xs hx holds A m c news hl hnews (by omega) (by omega) (growslice_fits (by omega) hby)
      exact ⟨_, _, hr, fresh cap w.drew (by omega) hC.tail.drew⟩
/-- append of a row to nothing at all that is read. -/
theorem run_append_none {P : Program} {t ty : Nat} {B : Option Addr} {c : Nat} (ht : sliceB P t E sz = true) (h : Sat w0 w (rowC E sz v n xs :: C)) :
    (Builtin.append_ #[t, t] ty #[v, .slice B 0 c]).run P w = .ok v w := by
  obtain ⟨hu, i, hi, hs⟩ := sliceB_spec ht
  rcases (row_open h).2 with ⟨rfl, rfl, _⟩ | ⟨g, cap, cur, rfl, h1, h2, h3, h4, hC⟩
  · cases B <;> simp [Builtin.append_, run_underlying hu, sizeOf, typeInfo, hi, Builtin.lenOf, Builtin.firstCells, loadCells, loadCellsFrom]
  · cases B <;> simp [Builtin.append_, run_underlying hu, sizeOf, typeInfo, hi, Builtin.lenOf, Builtin.firstCells, loadCells, loadCellsFrom, h1, storeCells]

section ops
variable {P : Program} {ρ : Operand → Value} {dst : Option Tmp} {ty : TypeId} {pos : String} {af : Array Edge} {gd : Option (Nat × Bool)}
theorem ef_append {t by_ : Nat} {x y : Operand} {A : Addr} {m c : Nat} {news : List Value} (ht : sliceB P t E sz = true) (he : elemB P E sz by_ = true) (hx : ρ x = v) (hy : ρ y = .slice (some A) m c) (h : Sat w0 w (rowC E sz v n xs :: C))
    (hl : news.length = m * sz) (hnews : ∀ j u, news[j]? = some u → w.cell? (A.add j) = some u) (h1 : ∀ u ∈ news, u.oneCell' = true) (h63 : n + m ≤ maxLen) (hby : (n + m) * by_ ≤ 140737488355328) :
    ∃ v' w', (execOp ρ ⟨dst, .call { callee := .builtin .append, args := #[x, y], argTypes := #[t, t] }, ty, pos, af, gd⟩).run P w = .ok (.value v') w' ∧ Sat w0 w' (rowC E sz v' (n + m) (xs ++ news) :: C) := by
  obtain ⟨v', w', hr, hS⟩ := run_append_row (ty := ty) (c := c) ht he h hl hnews h1 h63 hby
  refine ⟨v', w', ?_, hS⟩
  simp only [execOp, resolve, invoke, builtin, Sem.run_bind, Sem.run_pure, Result.andThen_ok, List.map_toArray, List.map_cons, List.map_nil, hx, hy, hr]

/-- A slice literal. -/
theorem ef_lit {t len : Nat} {parts : Array (Nat × Operand)} {vs : List (Nat × Value)} {z : Value} {res : List Value} (ht : sliceB P t E sz = true) (hz : zeroO P E = some z)
    (hp : parts.toList.map (fun p => (p.1, ρ p.2)) = vs) (hlen : len * sz ≤ 16777216) (h0 : len * sz ≠ 0)
    (hf : fillL ((List.range len).map fun i => (i * sz, sz)) ((List.range (len * sz)).map fun i => z.cells[i % z.cells.size]!) (vs.map fun p => (p.1, p.2.cells.toList)) = some res) (hi : ∀ p ∈ vs, p.1 < len) :
    (execOp ρ ⟨dst, .buildSlice t len parts, ty, pos, af, gd⟩).run P w = .ok (.value (.slice (some ⟨w.heap.size, 0, none⟩) len len)) (w.alloc (.cells res.toArray E)) := by
  obtain ⟨hu, i, hi', hs⟩ := sliceB_spec ht
  subst hs
  have h2 : (parts.map fun (x : Nat × Operand) => match x with | (i, x) => (i, ρ x)).toList = vs := by rw [← hp]; simp
  have hfill : Instr.fill (fun j => some (j * i.size, i.size)) ((List.range (len * i.size)).map fun i => z.cells[i % z.cells.size]!).toArray vs = some res.toArray := by
    have key : ∀ (vs : List (Nat × Value)) (cs : Array Value), (∀ p ∈ vs, p.1 < len) → Instr.fill (fun j => some (j * i.size, i.size)) cs vs = Instr.fill (fun j => (((List.range len).map fun i_1 => (i_1 * i.size, i.size)))[j]?) cs vs := by
      intro vs
      induction vs with
      | nil => intros; rfl
      | cons p r ih =>
        intro cs hp
        have hlt := hp p (by simp)
        simp only [Instr.fill]
        have e : (((List.range len).map fun i_1 => (i_1 * i.size, i.size)))[p.1]? = some (p.1 * i.size, i.size) := by simp [hlt]
        rw [e]
        simp only
        split
        · rfl
        · exact ih _ (fun q hq => hp q (by simp [hq]))
    rw [key vs _ hi]
    exact fill_eq (fun _ => rfl) vs _ res hf
  have hle : ¬ (16777216 < len * i.size) := by omega
  have e3 : (Array.range (len * i.size)).map (fun j => z.cells[j % z.cells.size]!) = ((List.range (len * i.size)).map fun j => z.cells[j % z.cells.size]!).toArray := by
    apply Array.ext'
    simp [Array.toList_range]
  simp only [execOp, Instr.buildSlice, Sem.run_bind, run_underlying hu, Result.andThen_ok, sizeB_run (show sizeB P E i.size = true by simp [sizeB, hi']), hle, if_false, h0]
  simp only [zeroO_run hz, Sem.run_bind, Result.andThen_ok, Sem.run_pure, e3, h2, hfill]
  simp [newRow, h0, zeroO_run hz, e3, hfill, hle]
/-- make([]T, n), of elements of one cell. -/
theorem ef_make1 {t by_ : Nat} {x y : Operand} {z : Value} {k k' : IntKind} {m : Nat} (ht : sliceB P t E 1 = true) (he : elemB P E 1 by_ = true) (hz : zeroO P E = some z) (hz1 : z.cells = #[z]) (hx : ρ x = .int k m) (hy : ρ y = .int k' m) (hb : by_ * m ≤ 281474976710656) (h63 : m ≤ 9223372036854775807) :
    (execOp ρ ⟨dst, .makeSlice t x y, ty, pos, af, gd⟩).run P w = .ok (.value (.slice (some ⟨w.heap.size, 0, none⟩) m m)) (w.alloc (.cells (List.replicate m z).toArray E)) := by
  obtain ⟨hu, _⟩ := sliceB_spec ht
  obtain ⟨i, z', hi, hs, hby, hz', _⟩ := elemB_spec he
  have ez : z' = z := by
    unfold zeroO at hz
    rw [hi] at hz
    have : i.zero = some z := hz
    rw [hz'] at this
    injection this
  subst ez
  subst hby
  have hr := run_make (P := P) w t E i z' hu hi hz' k k' m m (by omega) (by omega) (by
    have : ((i.bytes * m : Nat) : Int) ≤ 281474976710656 := by omega
    rwa [Int.natCast_mul] at this) (by omega)
  simp only [Int.toNat_natCast, hs, Nat.mul_one] at hr
  have e : madeCells z'.cells m = (List.replicate m z').toArray := by
    apply Array.ext'
    apply List.ext_getElem?
    intro j
    rw [hz1]
    simp only [madeCells, Array.toList_map, Array.toList_range, List.getElem?_map, List.getElem?_range', List.getElem?_replicate]
    by_cases hj : j < m
    · simp [hj, Nat.mod_one]
    · simp [hj]
  rw [e] at hr
  simp only [execOp, hx, hy, Sem.run_bind, hr, Result.andThen_ok]
  rfl
end ops
end rows
end Go.Proofs.Ytbfdebddoncfhaa.Sk
/-! Sk, part five: maps, told as lists of pairs in the order in which the keys came. -/
namespace Go.Proofs.Ytbfdebddoncfhaa.Sk
open Go Go.RowKit
set_option linter.unusedVariables false
set_option linter.unusedSimpArgs false

theorem map_eraseIdx {α β : Type} (f : α → β) : ∀ (l : List α) (i : Nat), (l.eraseIdx i).map f = (l.map f).eraseIdx i
  | [], _ => by simp
  | a :: r, 0 => rfl
  | a :: r, i + 1 => by simp [map_eraseIdx f r i]
theorem ba_beq (a b : ByteArray) : (a == b) = decide (a = b) := by
  cases a with
  | mk d =>
    cases b with
    | mk e =>
      show (d == e) = _
      by_cases h : d = e
      · subst h; simp
      · have hne : ¬ ByteArray.mk d = ByteArray.mk e := fun x => h (by injection x)
        simp [h, hne]
section lists
variable {K V : Type} [DecidableEq K]
def mGet (m : List (K × V)) (x : K) : Option V := (m.find? (fun p => decide (p.1 = x))).map (·.2)
def mPut (m : List (K × V)) (x : K) (v : V) : List (K × V) := if m.any (fun p => decide (p.1 = x)) then m.map (fun p => if p.1 = x then (x, v) else p) else m ++ [(x, v)]
def mDel (m : List (K × V)) (x : K) : List (K × V) := m.filter (fun p => !decide (p.1 = x))
/-- Where the key stands. -/
def mIdx : List (K × V) → K → Nat → Option Nat
  | [], _, _ => none
  | p :: r, x, i => if p.1 = x then some i else mIdx r x (i + 1)

theorem mIdx_none {x : K} : ∀ {m : List (K × V)} {i : Nat}, mIdx m x i = none → (∀ p ∈ m, p.1 ≠ x)
  | [], _, _ => fun p hp => by cases hp
  | p :: r, i, h => by
    simp only [mIdx] at h
    split at h
    · cases h
    · rename_i hne
      intro q hq
      rcases List.mem_cons.1 hq with rfl | hq
      · exact hne
      · exact mIdx_none h q hq
theorem mIdx_some {x : K} : ∀ {m : List (K × V)} {i j : Nat}, mIdx m x i = some j → i ≤ j ∧ ∃ v, m[j - i]? = some (x, v) ∧ ∀ k, k < j - i → ∀ p, m[k]? = some p → p.1 ≠ x
  | [], i, j, h => by simp [mIdx] at h
  | p :: r, i, j, h => by
    simp only [mIdx] at h
    split at h
    · rename_i he
      injection h with h
      subst h
      refine ⟨Nat.le_refl _, p.2, by simp [← he], fun k hk => by omega⟩
    · rename_i hne
      obtain ⟨h1, v, h2, h3⟩ := mIdx_some h
      refine ⟨by omega, v, ?_, fun k hk q hq => ?_⟩
      · rw [show j - i = (j - (i + 1)) + 1 by omega]
        simpa using h2
      · cases k with
        | zero => simp at hq; subst hq; exact hne
        | succ k => exact h3 k (by omega) q (by simpa using hq)
theorem mGet_none {m : List (K × V)} {x : K} (h : ∀ p ∈ m, p.1 ≠ x) : mGet m x = none := by
  unfold mGet
  rw [List.find?_eq_none.2 (fun p hp => by simpa using h p hp)]
  rfl
theorem mGet_at {m : List (K × V)} {x : K} {j : Nat} {v : V} (h : m[j]? = some (x, v)) (hb : ∀ k, k < j → ∀ p, m[k]? = some p → p.1 ≠ x) : mGet m x = some v := by
  induction m generalizing j with
  | nil => simp at h
  | cons p r ih =>
    cases j with
    | zero => simp at h; subst h; simp [mGet]
    | succ j =>
      have hp : p.1 ≠ x := hb 0 (by omega) p rfl
      have := ih (j := j) (by simpa using h) (fun k hk q hq => hb (k + 1) (by omega) q (by simpa using hq))
      unfold mGet at this ⊢
      simp [List.find?_cons, hp, this]
end lists

/-- Block b is a map; its entries, in the order in which the keys came, are m. -/
def mapC {K V : Type} (κ : K → Value) (ν : V → Value) (b : Nat) (m : List (K × V)) : Chunk := .pr fun f => (m.map (·.1)).Nodup ∧
  ∃ es clock, es.toList.map (fun e => (e.key, e.val)) = m.map (fun p => (κ p.1, ν p.2)) ∧ (es.toList.map (·.born)).Nodup ∧ (∀ e ∈ es.toList, e.born < clock) ∧ (Chunk.obj b (.map es clock)).holds f

/-- Keys of type kt: what the model's look-up makes of them. -/
structure Keys {K : Type} [DecidableEq K] (P : Program) (kt : TypeId) (κ : K → Value) : Prop where
  check : ∀ e x w, (Instr.checkKey e 10000 kt (κ x)).run P w = .ok () w
  find : ∀ x (es : List MapEntry) (ks : List K) w, es.map (·.key) = ks.map κ → (Instr.findKey kt (κ x) es).run P w = .ok ((mIdx (ks.map fun k => (k, ())) x 0).bind fun i => (es[i]?).map fun e => (i, e.val)) w
  bits : ∀ x, Instr.sameBits 10000 (κ x) (κ x) = true

section maps0
variable {K V : Type} {P : Program} {kt : TypeId} {κ : K → Value} {ν : V → Value} {w0 w : World} {C : List Chunk} {b : Nat} {m : List (K × V)}

theorem map_open (h : Sat w0 w (mapC κ ν b m :: C)) : (m.map (·.1)).Nodup ∧ ∃ es clock, es.toList.map (fun e => (e.key, e.val)) = m.map (fun p => (κ p.1, ν p.2)) ∧ (es.toList.map (·.born)).Nodup ∧ (∀ e ∈ es.toList, e.born < clock) ∧
    Sat w0 w (.obj b (.map es clock) :: C) := by
  obtain ⟨f, hf, hs⟩ := h.own
  obtain ⟨g1, k, hg, hk, ha, rfl⟩ := made_cons.1 hf
  obtain ⟨hn, es, clock, h1, h2, h3, h4⟩ := hg
  exact ⟨hn, es, clock, h1, h2, h3, h.os, h.tape, h.output, h.size, _, .cons h4 hk ha, hs⟩
theorem map_shut {es : Array MapEntry} {clock : Nat} (h : Sat w0 w (.obj b (.map es clock) :: C)) (hn : (m.map (·.1)).Nodup) (h1 : es.toList.map (fun e => (e.key, e.val)) = m.map (fun p => (κ p.1, ν p.2))) (h2 : (es.toList.map (·.born)).Nodup) (h3 : ∀ e ∈ es.toList, e.born < clock) :
    Sat w0 w (mapC κ ν b m :: C) := by
  obtain ⟨f, hf, hs⟩ := h.own
  obtain ⟨g1, k, hg, hk, ha, rfl⟩ := made_cons.1 hf
  exact ⟨h.os, h.tape, h.output, h.size, _, .cons ⟨hn, es, clock, h1, h2, h3, hg⟩ hk ha, hs⟩
theorem map_new (h : Sat w0 w C) : Sat w0 (w.alloc (.map #[] 0)) (mapC κ ν w.heap.size ([] : List (K × V)) :: C) := map_shut h.new (by simp) (by simp) (by simp) (by simp)

end maps0
section maps
variable {K V : Type} [DecidableEq K] {P : Program} {kt : TypeId} {κ : K → Value} {ν : V → Value} {w0 w : World} {C : List Chunk} {b : Nat} {m : List (K × V)}
theorem find_run (hK : Keys P kt κ) {es : Array MapEntry} (h1 : es.toList.map (fun e => (e.key, e.val)) = m.map (fun p => (κ p.1, ν p.2))) (x : K) (w : World) :
    (Instr.findKey kt (κ x) es.toList).run P w = .ok ((mIdx m x 0).bind fun i => (m[i]?).map fun p => (i, ν p.2)) w := by
  have hk : es.toList.map (·.key) = (m.map (·.1)).map κ := by
    have := congrArg (List.map Prod.fst) h1
    simpa [List.map_map, Function.comp_def] using this
  have hv : es.toList.map (·.val) = m.map (fun p => ν p.2) := by
    have := congrArg (List.map Prod.snd) h1
    simpa [List.map_map, Function.comp_def] using this
  rw [hK.find x es.toList (m.map (·.1)) w hk]
  have e1 : ∀ (l : List (K × V)) (i : Nat), mIdx ((l.map (·.1)).map fun k => (k, ())) x i = mIdx l x i := by
    intro l
    induction l with
    | nil => intro i; rfl
    | cons p r ih =>
      intro i
      simp only [List.map_cons, mIdx]
      split
      · rfl
      · exact ih _
  rw [e1]
  congr 1
  cases mIdx m x 0 with
  | none => rfl
  | some i =>
    simp only [Option.bind_some]
    have := congrArg (fun l => l[i]?) hv
    simp only [List.getElem?_map] at this
    cases h : es.toList[i]? <;> cases h' : m[i]? <;> rw [h, h'] at this <;> simp at this ⊢
    exact this

/-- A look-up. -/
theorem run_look {t et : TypeId} {z : Value} (hK : Keys P kt κ) (ht : P.underlying t = some (.map kt et)) (hz : zeroO P et = some z) (h : Sat w0 w (mapC κ ν b m :: C)) (x : K) (ok : Bool) :
    (Instr.lookup t (.map (some b)) (κ x) ok).run P w = .ok (let r := match mGet m x with | some v => (ν v, true) | none => (z, false); if ok then .tuple #[r.1, .bool r.2] else r.1) w := by
  obtain ⟨hn, es, clock, h1, h2, h3, hS⟩ := map_open h
  have hg : (getObj b).run P w = .ok (.map es clock) w := by simp [getObj, Sem.run, hS.obj]
  simp only [Instr.lookup, Sem.run_bind, run_underlying ht, Result.andThen_ok, hg, Sem.run_pure, hK.check, find_run hK h1]
  cases hi : mIdx m x 0 with
  | none =>
    rw [mGet_none (mIdx_none hi)]
    simp only [Option.bind_none, Sem.run_bind, zeroO_run hz, Result.andThen_ok, Sem.run_pure]
  | some i =>
    obtain ⟨_, v, hv, hb⟩ := mIdx_some hi
    simp only [Nat.sub_zero] at hv hb
    rw [mGet_at hv hb]
    simp only [Option.bind_some, hv, Option.map_some, Sem.run_bind, Sem.run_pure, Result.andThen_ok]

end maps
section maps1
variable {K V : Type} {P : Program} {kt : TypeId} {κ : K → Value} {ν : V → Value} {w0 w : World} {C : List Chunk} {b : Nat} {m : List (K × V)}
theorem run_maplen {t et : TypeId} (ht : P.underlying t = some (.map kt et)) (h : Sat w0 w (mapC κ ν b m :: C)) (ty : TypeId) : (Builtin.len_ #[t] ty #[.map (some b)]).run P w = .ok (.int .i64 m.length) w := by
  obtain ⟨hn, es, clock, h1, h2, h3, hS⟩ := map_open h
  have hg : (getObj b).run P w = .ok (.map es clock) w := by simp [getObj, Sem.run, hS.obj]
  have hl : es.size = m.length := by have := congrArg List.length h1; simpa using this
  have e0 : (#[t] : Array TypeId)[0]? = some t := rfl
  have e1 : (#[(.map (some b) : Value)] : Array Value)[0]? = some (.map (some b)) := rfl
  simp only [Builtin.len_, e0, e1, Sem.run_bind, run_underlying ht, Result.andThen_ok, hg, Sem.run_pure, goInt, hl]

end maps1
section maps2
variable {K V : Type} [DecidableEq K] {P : Program} {kt : TypeId} {κ : K → Value} {ν : V → Value} {w0 w : World} {C : List Chunk} {b : Nat} {m : List (K × V)}
theorem put_set {x : K} {v v' : V} : ∀ {m : List (K × V)} {i : Nat}, (m.map (·.1)).Nodup → m[i]? = some (x, v') → m.map (fun p => if p.1 = x then (x, v) else p) = m.set i (x, v)
  | [], i, _, h => by simp at h
  | p :: r, 0, hn, h => by
    simp at h
    subst h
    simp only [List.map_cons, if_true, List.set_cons_zero, List.cons.injEq, true_and]
    have : ∀ q ∈ r, q.1 ≠ x := by
      intro q hq e
      simp only [List.map_cons, List.nodup_cons] at hn
      exact hn.1 (List.mem_map.2 ⟨q, hq, e⟩)
    exact (List.map_congr_left fun q hq => by simp [this q hq]).trans (List.map_id' r)
  | p :: r, i + 1, hn, h => by
    simp only [List.map_cons, List.nodup_cons] at hn
    have hr : r[i]? = some (x, v') := by simpa using h
    have hp : p.1 ≠ x := fun e => hn.1 (List.mem_map.2 ⟨(x, v'), List.mem_of_getElem? hr, e.symm⟩)
    simp only [List.map_cons, hp, if_false, List.set_cons_succ, put_set hn.2 hr]

theorem sat_setObj {o o' : Obj} (h : Sat w0 w (.obj b o :: C)) (ho : ∀ c e f, o ≠ .cells c e f) : ∃ w', (setObj b o').run P w = .ok () w' ∧ Sat w0 w' (.obj b o' :: C) := by
  have hb := h.obj
  have hlt : b < w.heap.size := (Array.getElem?_eq_some_iff.1 hb).1
  refine ⟨{ w with heap := w.heap.setIfInBounds b o' }, ?_, ?_⟩
  · unfold setObj
    simp only [Sem.run]
    cases o with
    | cells c e f => exact absurd rfl (ho c e f)
    | _ => simp only [hb]
  · exact h.set rfl rfl rfl (by simp) (by simp [hlt]) (fun i hi => by simp [Array.getElem?_setIfInBounds_ne (Ne.symm hi)])

/-- A store. -/
theorem run_put {t et : TypeId} (hK : Keys P kt κ) (ht : P.underlying t = some (.map kt et)) (h : Sat w0 w (mapC κ ν b m :: C)) (x : K) (v : V) :
    ∃ w', (Instr.mapUpdate t (.map (some b)) (κ x) (ν v)).run P w = .ok () w' ∧ Sat w0 w' (mapC κ ν b (mPut m x v) :: C) := by
  obtain ⟨hn, es, clock, h1, h2, h3, hS⟩ := map_open h
  have hg : (getObj b).run P w = .ok (.map es clock) w := by simp [getObj, Sem.run, hS.obj]
  simp only [Instr.mapUpdate, Sem.run_bind, run_underlying ht, Result.andThen_ok, hg, hK.check, find_run hK h1]
  cases hi : mIdx m x 0 with
  | none =>
    have hno := mIdx_none hi
    simp only [Option.bind_none]
    obtain ⟨w', hr, hS'⟩ := sat_setObj (P := P) (o' := .map (es.push { key := κ x, val := ν v, born := clock }) (clock + 1)) hS (by intros; simp)
    refine ⟨w', hr, ?_⟩
    have e : mPut m x v = m ++ [(x, v)] := by
      unfold mPut
      rw [if_neg]
      simp only [List.any_eq_true, decide_eq_true_eq, not_exists, not_and]
      exact fun p hp => hno p hp
    rw [e]
    refine map_shut hS' ?_ ?_ ?_ ?_
    · simp only [List.map_append, List.map_cons, List.map_nil, List.nodup_append, hn, true_and]
      refine ⟨by simp, fun a ha c hc => ?_⟩
      simp at hc
      subst hc
      obtain ⟨p, hp, rfl⟩ := List.mem_map.1 ha
      exact hno p hp
    · simp [h1]
    · simp only [Array.toList_push, List.map_append, List.map_cons, List.map_nil, List.nodup_append, h2, true_and]
      refine ⟨by simp, fun a ha c hc => ?_⟩
      simp at hc
      subst hc
      obtain ⟨p, hp, rfl⟩ := List.mem_map.1 ha
      exact Nat.ne_of_lt (h3 p hp)
    · intro e he
      simp only [Array.toList_push, List.mem_append, List.mem_singleton] at he
      rcases he with he | rfl
      · exact Nat.lt_succ_of_lt (h3 e he)
      · simp
  | some i =>
    obtain ⟨_, v', hv, hb⟩ := mIdx_some hi
    simp only [Nat.sub_zero] at hv hb
    simp only [Option.bind_some, hv, Option.map_some]
    have hkey : ((es[i]?).map (·.key)).getD (κ x) = κ x := by
      have := congrArg (fun l => l[i]?) h1
      simp only [List.getElem?_map, hv, Option.map_some] at this
      cases he : es[i]? with
      | none => rfl
      | some e =>
        have he' : es.toList[i]? = some e := by simpa using he
        rw [he'] at this
        simp at this
        simp [this.1]
    have hst : (Instr.keyThatStays (κ x) (κ x)).run P w = .ok (κ x) w := by simp [Instr.keyThatStays, hK.bits x]
    obtain ⟨w', hr, hS'⟩ := sat_setObj (P := P) (o' := .map (es.modify i fun e => { e with key := κ x, val := ν v }) clock) hS (by intros; simp)
    refine ⟨w', ?_, ?_⟩
    · simp only [Sem.run_bind, hkey, hst, Result.andThen_ok, hr]
    have e : mPut m x v = m.set i (x, v) := by
      unfold mPut
      rw [if_pos (by simpa using ⟨v', List.mem_of_getElem? hv⟩)]
      exact put_set hn hv
    rw [e]
    have hm : (es.modify i fun e => { e with key := κ x, val := ν v }).toList = es.toList.modify i (fun e => { e with key := κ x, val := ν v }) := by simp
    have hilt : i < m.length := (List.getElem?_eq_some_iff.1 hv).1
    refine map_shut hS' ?_ ?_ ?_ ?_
    · have : (m.set i (x, v)).map (·.1) = m.map (·.1) := by
        apply List.ext_getElem?
        intro j
        simp only [List.getElem?_map, List.getElem?_set]
        by_cases hij : i = j
        · subst hij
          rw [if_pos rfl, hv, if_pos hilt]
          rfl
        · rw [if_neg hij]
      rw [this]; exact hn
    · rw [hm]
      apply List.ext_getElem?
      intro j
      have := congrArg (fun l => l[j]?) h1
      simp only [List.getElem?_map] at this
      simp only [List.getElem?_map, List.getElem?_modify, List.getElem?_set]
      by_cases hij : i = j
      · subst hij
        simp only [if_true, hilt]
        rw [hv] at this
        cases he : es.toList[i]? with
        | none => rw [he] at this; cases this
        | some e => simp
      · simp only [hij, if_false]
        cases he : es.toList[j]? <;> rw [he] at this <;> simpa using this
    · rw [hm]
      have : (es.toList.modify i (fun e => { e with key := κ x, val := ν v })).map (·.born) = es.toList.map (·.born) := by
        apply List.ext_getElem?
        intro j
        simp only [List.getElem?_map, List.getElem?_modify]
        cases es.toList[j]? with
        | none => rfl
        | some e => by_cases hij : i = j <;> simp [hij]
      rw [this]; exact h2
    · rw [hm]
      intro e he
      obtain ⟨j, hj⟩ := List.getElem?_of_mem he
      rw [List.getElem?_modify] at hj
      cases hq : es.toList[j]? with
      | none => rw [hq] at hj; cases hj
      | some q =>
        rw [hq] at hj
        have hlt := h3 q (List.mem_of_getElem? hq)
        by_cases hij : i = j
        · simp [hij] at hj; subst hj; exact hlt
        · simp [hij] at hj; subst hj; exact hlt

theorem del_erase {x : K} {v' : V} : ∀ {m : List (K × V)} {i : Nat}, (m.map (·.1)).Nodup → m[i]? = some (x, v') → mDel m x = m.eraseIdx i
  | [], i, _, h => by simp at h
  | p :: r, 0, hn, h => by
    simp at h
    subst h
    simp only [List.map_cons, List.nodup_cons] at hn
    simp only [mDel, List.filter_cons, decide_true, Bool.not_true, Bool.false_eq_true, if_false, List.eraseIdx_cons_zero]
    exact List.filter_eq_self.2 fun q hq => by simpa using fun e => hn.1 (List.mem_map.2 ⟨q, hq, e⟩)
  | p :: r, i + 1, hn, h => by
    simp only [List.map_cons, List.nodup_cons] at hn
    have hr : r[i]? = some (x, v') := by simpa using h
    have hp : p.1 ≠ x := fun e => hn.1 (List.mem_map.2 ⟨(x, v'), List.mem_of_getElem? hr, e.symm⟩)
    have := del_erase hn.2 hr
    simp only [mDel] at this ⊢
    simp [List.filter_cons, hp, this]
theorem del_none {x : K} (h : ∀ p ∈ m, p.1 ≠ x) : mDel m x = m := List.filter_eq_self.2 fun q hq => by simpa using h q hq

/-- delete. -/
theorem run_del {t et ty : TypeId} (hK : Keys P kt κ) (ht : P.underlying t = some (.map kt et)) (h : Sat w0 w (mapC κ ν b m :: C)) (x : K) :
    ∃ w', (Builtin.delete_ #[t, kt] ty #[.map (some b), κ x]).run P w = .ok (.tuple #[]) w' ∧ Sat w0 w' (mapC κ ν b (mDel m x) :: C) := by
  obtain ⟨hn, es, clock, h1, h2, h3, hS⟩ := map_open h
  have hg : (getObj b).run P w = .ok (.map es clock) w := by simp [getObj, Sem.run, hS.obj]
  have e0 : (#[t, kt] : Array TypeId)[0]? = some t := rfl
  have e1 : (#[(.map (some b) : Value), κ x] : Array Value)[0]? = some (.map (some b)) := rfl
  have e2 : (#[(.map (some b) : Value), κ x] : Array Value)[1]? = some (κ x) := rfl
  simp only [Builtin.delete_, e0, e1, e2, Sem.run_bind, run_underlying ht, Result.andThen_ok, hg, hK.check, find_run hK h1]
  cases hi : mIdx m x 0 with
  | none =>
    obtain ⟨w', hr, hS'⟩ := sat_setObj (P := P) (o' := .map es clock) hS (by intros; simp)
    refine ⟨w', by simp only [Option.bind_none, Sem.run_bind, hr, Result.andThen_ok, Sem.run_pure], ?_⟩
    rw [del_none (mIdx_none hi)]
    exact map_shut hS' hn h1 h2 h3
  | some i =>
    obtain ⟨_, v', hv, hb⟩ := mIdx_some hi
    simp only [Nat.sub_zero] at hv hb
    obtain ⟨w', hr, hS'⟩ := sat_setObj (P := P) (o' := .map (es.eraseIdxIfInBounds i) clock) hS (by intros; simp)
    refine ⟨w', by simp only [Option.bind_some, hv, Option.map_some, Sem.run_bind, hr, Result.andThen_ok, Sem.run_pure], ?_⟩
    rw [del_erase hn hv]
    have hm : (es.eraseIdxIfInBounds i).toList = es.toList.eraseIdx i := by
      unfold Array.eraseIdxIfInBounds
      split
      · simp
      · rename_i hge
        have : es.toList.length ≤ i := by simpa using Nat.le_of_not_lt hge
        rw [List.eraseIdx_of_length_le this]
    refine map_shut hS' ?_ ?_ ?_ ?_
    · have : (m.eraseIdx i).map (·.1) = (m.map (·.1)).eraseIdx i := map_eraseIdx _ _ _
      rw [this]
      exact hn.sublist (List.eraseIdx_sublist _ _)
    · rw [hm]
      have := congrArg (fun l => l.eraseIdx i) h1
      simpa only [map_eraseIdx] using this
    · rw [hm, map_eraseIdx]
      exact h2.sublist (List.eraseIdx_sublist _ _)
    · rw [hm]
      intro e he
      exact h3 e ((List.eraseIdx_sublist _ _).subset he)
end maps2

/-! ### whole numbers and strings as keys -/
theorem int_keys {P : Program} {kt : TypeId} {k : IntKind} (hk : P.underlying kt = some (.int k)) : Keys P kt (Value.int k) where
  check e x w := by
    rw [show (10000 : Nat) = 9999 + 1 from rfl, Instr.checkKey]
    simp only [Sem.run_bind, run_underlying hk, Result.andThen_ok]
    rfl
  find x es ks w h := by
    have key : ∀ (es : List MapEntry) (ks : List Int) (i : Nat), es.map (·.key) = ks.map (Value.int k) →
        Instr.findNow (.int k) (.int k x) es i = some ((mIdx (ks.map fun k => (k, ())) x i).bind fun j => (es[j - i]?).map fun e => (j, e.val)) := by
      intro es
      induction es with
      | nil => intro ks i h; cases ks <;> simp at h; rfl
      | cons e r ih =>
        intro ks i h
        cases ks with
        | nil => simp at h
        | cons y ys =>
          simp only [List.map_cons, List.cons.injEq] at h
          simp only [Instr.findNow, h.1, Instr.sameNow, if_true, List.map_cons, mIdx]
          by_cases hxy : y = x
          · subst hxy; simp
          · have : (x == y) = false := by simpa using fun e => hxy e.symm
            simp only [this, hxy, if_false, ih ys (i + 1) h.2]
            congr 1
            cases hi : mIdx (ys.map fun k => (k, ())) x (i + 1) with
            | none => rfl
            | some j =>
              obtain ⟨hle, _⟩ := mIdx_some hi
              simp only [Option.bind_some]
              rw [show j - i = (j - (i + 1)) + 1 by omega]
              rfl
    have h2 := key es ks 0 h
    simp only [Nat.sub_zero] at h2
    unfold Instr.findKey
    simp only [Sem.run_bind, run_underlying hk, Result.andThen_ok, h2, Sem.run_pure]
  bits x := by
    rw [show (10000 : Nat) = 9999 + 1 from rfl]
    simp [Instr.sameBits]
theorem string_keys {P : Program} {kt : TypeId} (hk : P.underlying kt = some .string) : Keys P kt Value.string where
  check e x w := by
    rw [show (10000 : Nat) = 9999 + 1 from rfl, Instr.checkKey]
    simp only [Sem.run_bind, run_underlying hk, Result.andThen_ok]
    rfl
  find x es ks w h := by
    have key : ∀ (es : List MapEntry) (ks : List ByteArray) (i : Nat), es.map (·.key) = ks.map Value.string →
        Instr.findNow .string (.string x) es i = some ((mIdx (ks.map fun k => (k, ())) x i).bind fun j => (es[j - i]?).map fun e => (j, e.val)) := by
      intro es
      induction es with
      | nil => intro ks i h; cases ks <;> simp at h; rfl
      | cons e r ih =>
        intro ks i h
        cases ks with
        | nil => simp at h
        | cons y ys =>
          simp only [List.map_cons, List.cons.injEq] at h
          simp only [Instr.findNow, h.1, Instr.sameNow, List.map_cons, mIdx, ba_beq]
          by_cases hxy : y = x
          · subst hxy; simp
          · have : ¬ x = y := fun e => hxy e.symm
            simp only [this, decide_false, hxy, if_false, ih ys (i + 1) h.2]
            congr 1
            cases hi : mIdx (ys.map fun k => (k, ())) x (i + 1) with
            | none => rfl
            | some j =>
              obtain ⟨hle, _⟩ := mIdx_some hi
              simp only [Option.bind_some]
              rw [show j - i = (j - (i + 1)) + 1 by omega]
              rfl
    have h2 := key es ks 0 h
    simp only [Nat.sub_zero] at h2
    unfold Instr.findKey
    simp only [Sem.run_bind, run_underlying hk, Result.andThen_ok, h2, Sem.run_pure]
  bits x := by
    rw [show (10000 : Nat) = 9999 + 1 from rfl]
    simp [Instr.sameBits, ba_beq]
end Go.Proofs.Ytbfdebddoncfhaa.Sk
/-! Sk, part six: steps that change the heap, with what the heap holds told again behind them. -/
namespace Go.Proofs.Ytbfdebddoncfhaa.Sk
open Go Go.RowKit
set_option linter.unusedVariables false
set_option linter.unusedSimpArgs false

section lit
variable {P : Program} {ρ : Operand → Value} {dst : Option Tmp} {ty : TypeId} {pos : String} {af : Array Edge} {gd : Option (Nat × Bool)} {w : World} {E sz : Nat}
/-- A slice literal of one element. -/
theorem ef_lit1 {t : Nat} {x : Operand} {v z : Value} {cs : List Value} (ht : sliceB P t E sz = true) (hz : zeroO P E = some z) (hzs : z.cells.size = sz) (hx : ρ x = v) (hv : v.cells.toList = cs) (hs : cs.length = sz) (h0 : 0 < sz) (hle : sz ≤ 16777216) :
    (execOp ρ ⟨dst, .buildSlice t 1 #[(0, x)], ty, pos, af, gd⟩).run P w = .ok (.value (.slice (some ⟨w.heap.size, 0, none⟩) 1 1)) (w.alloc (.cells cs.toArray E)) := by
  refine ef_lit (vs := [(0, v)]) (res := cs) ht hz (by simp [hx]) (by omega) (by omega) ?_ (by simp)
  have e : ((List.range 1).map fun i => (i * sz, sz))[0]? = some (0, sz) := by simp
  simp only [List.map_cons, List.map_nil, hv, fillL, e]
  have h2 : (cs.length == sz) = true := by simp [hs]
  have h3 : Nat.ble (0 + cs.length) ((List.range (1 * sz)).map fun i => z.cells[i % z.cells.size]!).length = true := by
    simp [hs]
  simp only [h2, h3, Bool.and_self, cond_true, putL, List.take_zero, List.nil_append, Nat.zero_add]
  rw [List.drop_eq_nil_of_le (by simp; omega)]
  simp
  have h4 : Nat.ble cs.length sz = true := by rw [hs]; exact Nat.ble_eq_true_of_le (Nat.le_refl _)
  simp [h4]
theorem ef_lit0 {t : Nat} (ht : sliceB P t E sz = true) : (execOp ρ ⟨dst, .buildSlice t 0 #[], ty, pos, af, gd⟩).run P w = .ok (.value (.slice (some ⟨w.heap.size, 0, none⟩) 0 0)) (w.alloc (.cells #[] E)) := by
  obtain ⟨hu, i, hi, hs⟩ := sliceB_spec ht
  subst hs
  simp only [execOp, Instr.buildSlice, Sem.run_bind, run_underlying hu, Result.andThen_ok, sizeB_run (show sizeB P E i.size = true by simp [sizeB, hi])]
  simp [Instr.fill, newRow]
  have e : (Array.range 0).map (fun (_ : Nat) => (default : Value)) = #[] := by simp [Array.range]
  rw [e]
end lit

section steps
variable {P : Program} {ops : Array Oper} {Q : Exit → Act → World → Prop} {rest : List Oper} {o : Oper} {a : Act} {w0 w w' : World} {n : Shape} {d : Nat} {L : List (Nat × Value)} {v : Value} {C : List Chunk}
variable {S : World → Prop} {ds : List Nat} {ord : List (Nat × How)} {k j : Nat}

/-! ### new blocks -/
theorem s_newp {ob : Obj} (hF : Fr a n L) (hg : wantedB ops L o = some true) (hd : o.dst = some d) (hn : Nat.blt d n.size = true) (h : (execOp a.eval o).run P w = .ok (.value (.pointer (some ⟨w.heap.size, 0, none⟩))) (w.alloc ob)) (hS : Sat w0 w C)
    (k : ∀ b w', Sat w0 w' (.obj b ob :: C) → ∀ a', Fr a' n ((d, .pointer (some ⟨b, 0, none⟩)) :: L) → wpList P ops Q rest a' w') : wpList P ops Q (o :: rest) a w :=
  s_ev hF hg hd hn h fun a' hF' => k _ _ hS.new a' hF'
theorem s_news {ob : Obj} {l c : Nat} (hF : Fr a n L) (hg : wantedB ops L o = some true) (hd : o.dst = some d) (hn : Nat.blt d n.size = true) (h : (execOp a.eval o).run P w = .ok (.value (.slice (some ⟨w.heap.size, 0, none⟩) l c)) (w.alloc ob)) (hS : Sat w0 w C)
    (k : ∀ b w', Sat w0 w' (.obj b ob :: C) → ∀ a', Fr a' n ((d, .slice (some ⟨b, 0, none⟩) l c) :: L) → wpList P ops Q rest a' w') : wpList P ops Q (o :: rest) a w :=
  s_ev hF hg hd hn h fun a' hF' => k _ _ hS.new a' hF'
theorem s_newm {K V : Type} [DecidableEq K] (κ : K → Value) (ν : V → Value) (hF : Fr a n L) (hg : wantedB ops L o = some true) (hd : o.dst = some d) (hn : Nat.blt d n.size = true) (h : (execOp a.eval o).run P w = .ok (.value (.map (some w.heap.size))) (w.alloc (.map #[] 0))) (hS : Sat w0 w C)
    (k : ∀ b w', Sat w0 w' (mapC κ ν b [] :: C) → ∀ a', Fr a' n ((d, .map (some b)) :: L) → wpList P ops Q rest a' w') : wpList P ops Q (o :: rest) a w :=
  s_ev hF hg hd hn h fun a' hF' => k _ _ (map_new hS) a' hF'
theorem d_newp {i : Nat} {ob : Obj} (hD : Drawn P ops Q S ds ord) (hF : Fr a n L) (hp : ord[i]? = some (j, .on)) (ho : ops[j]? = some o) (hg : wantedB ops L o = some true) (hd : o.dst = some d) (hn : Nat.blt d n.size = true)
    (h : (execOp a.eval o).run P w = .ok (.value (.pointer (some ⟨w.heap.size, 0, none⟩))) (w.alloc ob)) (hS : Sat w0 w C) (hc : ∀ b w', Sat w0 w' (.obj b ob :: C) → S w')
    (k : ∀ b w', Sat w0 w' (.obj b ob :: C) → ∀ a', Fr a' n ((d, .pointer (some ⟨b, 0, none⟩)) :: L) → wpD P ops Q S ds ord (i + 1) a' w') : wpD P ops Q S ds ord i a w :=
  d_ev hD hF hp ho hg hd hn h (hc _ _ hS.new) fun a' hF' => k _ _ hS.new a' hF'
theorem d_news {i : Nat} {ob : Obj} {l c : Nat} (hD : Drawn P ops Q S ds ord) (hF : Fr a n L) (hp : ord[i]? = some (j, .on)) (ho : ops[j]? = some o) (hg : wantedB ops L o = some true) (hd : o.dst = some d) (hn : Nat.blt d n.size = true)
    (h : (execOp a.eval o).run P w = .ok (.value (.slice (some ⟨w.heap.size, 0, none⟩) l c)) (w.alloc ob)) (hS : Sat w0 w C) (hc : ∀ b w', Sat w0 w' (.obj b ob :: C) → S w')
    (k : ∀ b w', Sat w0 w' (.obj b ob :: C) → ∀ a', Fr a' n ((d, .slice (some ⟨b, 0, none⟩) l c) :: L) → wpD P ops Q S ds ord (i + 1) a' w') : wpD P ops Q S ds ord i a w :=
  d_ev hD hF hp ho hg hd hn h (hc _ _ hS.new) fun a' hF' => k _ _ hS.new a' hF'

/-! ### stores into a block that is told -/
theorem store_run {dst : Option Tmp} {ty : TypeId} {pos : String} {af : Array Edge} {gd : Option (Nat × Bool)} {t b off i : Nat} {x y : Operand} {cs : Array Value} {e : TypeId} {vs : List Value} (hx : a.eval x = .pointer (some ⟨b, off, none⟩)) (hy : a.eval y = v) (hv : v.cells.toList = vs) (hz : sizeB P t vs.length = true)
    (h1 : vs.all (fun u => u.oneCell') = true) (hS : Sat w0 w C) (hi : nth C i = some (.obj b (.cells cs e (0, 0)))) (hfit : off + vs.length ≤ cs.size) :
    (execOp a.eval ⟨dst, .store t x y, ty, pos, af, gd⟩).run P w = .ok .skip (w.setRow b (storeA cs off vs)) ∧ Sat w0 (w.setRow b (storeA cs off vs)) (upd C i (.obj b (.cells (storeA cs off vs) e (0, 0)))) :=
  ⟨run_store_row hx hy hv hz (fun u hu => List.all_eq_true.1 h1 u hu) (hS.obj_at hi) hfit, sat_setRow hS hi⟩
theorem s_store {t b off : Nat} {x y : Operand} {ty : TypeId} {pos : String} {af : Array Edge} {gd : Option (Nat × Bool)} (i : Nat) {cs cs' : Array Value} {e : TypeId} {vs : List Value} (hF : Fr a n L) (hg : wantedB ops L ⟨none, .store t x y, ty, pos, af, gd⟩ = some true)
    (hx : a.eval x = .pointer (some ⟨b, off, none⟩)) (hy : a.eval y = v) (hS : Sat w0 w C) (hi : nth C i = some (.obj b (.cells cs e (0, 0)))) (hv : v.cells.toList = vs) (hz : sizeB P t vs.length = true)
    (h1 : vs.all (fun u => u.oneCell') = true) (hfit : off + vs.length ≤ cs.size) (hcs : storeA cs off vs = cs')
    (k : ∀ w', Sat w0 w' (upd C i (.obj b (.cells cs' e (0, 0)))) → wpList P ops Q rest a w') : wpList P ops Q (⟨none, .store t x y, ty, pos, af, gd⟩ :: rest) a w :=
  by
  subst hcs
  exact let ⟨hr, hS'⟩ := store_run hx hy hv hz h1 hS hi hfit
  s_sk hF hg rfl hr (k _ hS')
theorem d_store {p t b off : Nat} {x y : Operand} {ty : TypeId} {pos : String} {af : Array Edge} {gd : Option (Nat × Bool)} (i : Nat) {cs cs' : Array Value} {e : TypeId} {vs : List Value} (hD : Drawn P ops Q S ds ord) (hF : Fr a n L) (hp : ord[p]? = some (j, .on))
    (ho : ops[j]? = some ⟨none, .store t x y, ty, pos, af, gd⟩) (hg : wantedB ops L ⟨none, .store t x y, ty, pos, af, gd⟩ = some true)
    (hx : a.eval x = .pointer (some ⟨b, off, none⟩)) (hy : a.eval y = v) (hS : Sat w0 w C) (hi : nth C i = some (.obj b (.cells cs e (0, 0)))) (hv : v.cells.toList = vs) (hz : sizeB P t vs.length = true)
    (h1 : vs.all (fun u => u.oneCell') = true) (hfit : off + vs.length ≤ cs.size) (hcs : storeA cs off vs = cs') (hc : ∀ w', Sat w0 w' (upd C i (.obj b (.cells cs' e (0, 0)))) → S w')
    (k : ∀ w', Sat w0 w' (upd C i (.obj b (.cells cs' e (0, 0)))) → wpD P ops Q S ds ord (p + 1) a w') : wpD P ops Q S ds ord p a w :=
  by
  subst hcs
  exact let ⟨hr, hS'⟩ := store_run hx hy hv hz h1 hS hi hfit
  d_sk hD hF hp ho hg rfl hr (hc _ hS') (k _ hS')
theorem l_store {p t b off : Nat} {x y : Operand} {ty : TypeId} {pos : String} {af : Array Edge} {gd : Option (Nat × Bool)} (i : Nat) {cs cs' : Array Value} {e : TypeId} {vs : List Value} (hD : Drawn P ops Q S ds ord) (hF : Fr a n L) (hp : ord[p]? = some (j, .ls))
    (ho : ops[j]? = some ⟨none, .store t x y, ty, pos, af, gd⟩) (hg : wantedB ops L ⟨none, .store t x y, ty, pos, af, gd⟩ = some true)
    (hx : a.eval x = .pointer (some ⟨b, off, none⟩)) (hy : a.eval y = v) (hS : Sat w0 w C) (hi : nth C i = some (.obj b (.cells cs e (0, 0)))) (hv : v.cells.toList = vs) (hz : sizeB P t vs.length = true)
    (h1 : vs.all (fun u => u.oneCell') = true) (hfit : off + vs.length ≤ cs.size) (hcs : storeA cs off vs = cs')
    (k : ∀ w', Sat w0 w' (upd C i (.obj b (.cells cs' e (0, 0)))) → wpD P ops Q S ds ord (p + 1) a w') : wpD P ops Q S ds ord p a w :=
  by
  subst hcs
  exact let ⟨hr, hS'⟩ := store_run hx hy hv hz h1 hS hi hfit
  l_sk hD hF hp ho hg rfl hr (k _ hS')

/-! ### append -/
theorem append_run {E sz t by_ nn m c bb i j : Nat} {x y : Operand} {dst : Option Tmp} {ty : TypeId} {pos : String} {af : Array Edge} {gd : Option (Nat × Bool)} {xs news : List Value} (ht : sliceB P t E sz = true) (he : elemB P E sz by_ = true) (hx : a.eval x = v)
    (hy : a.eval y = .slice (some ⟨bb, 0, none⟩) m c) (hS : Sat w0 w C) (hi : nth C i = some (rowC E sz v nn xs)) (hj : nth C j = some (.obj bb (.cells news.toArray E (0, 0)))) (hl : news.length = m * sz) (h1 : news.all (fun u => u.oneCell') = true)
    (h63 : nn + m ≤ maxLen) (hby : (nn + m) * by_ ≤ 140737488355328) :
    ∃ A q w', (execOp a.eval ⟨dst, .call { callee := .builtin .append, args := #[x, y], argTypes := #[t, t] }, ty, pos, af, gd⟩).run P w = .ok (.value (.slice A (nn + m) q)) w' ∧ Sat w0 w' (rowC E sz (.slice A (nn + m) q) (nn + m) (xs ++ news) :: del C i) := by
  obtain ⟨v', w', hr, hS'⟩ := ef_append (dst := dst) (ty := ty) (pos := pos) (af := af) (gd := gd) ht he hx hy (hS.front i hi) hl (fun k u hu => by rw [addr_add]; exact hS.cell hj (by simpa using hu)) (fun u hu => List.all_eq_true.1 h1 u hu) h63 hby
  obtain ⟨A, q, rfl, _⟩ := row_val hS'
  exact ⟨A, q, w', hr, hS'⟩
theorem s_append {E sz t by_ nn m c bb : Nat} (i j : Nat) {x y : Operand} {ty : TypeId} {pos : String} {af : Array Edge} {gd : Option (Nat × Bool)} {xs news : List Value} (hF : Fr a n L)
    (hg : wantedB ops L ⟨some d, .call { callee := .builtin .append, args := #[x, y], argTypes := #[t, t] }, ty, pos, af, gd⟩ = some true) (hn : Nat.blt d n.size = true) (ht : sliceB P t E sz = true) (he : elemB P E sz by_ = true) (hx : a.eval x = v)
    (hy : a.eval y = .slice (some ⟨bb, 0, none⟩) m c) (hS : Sat w0 w C) (hi : nth C i = some (rowC E sz v nn xs)) (hj : nth C j = some (.obj bb (.cells news.toArray E (0, 0)))) (hl : news.length = m * sz) (h1 : news.all (fun u => u.oneCell') = true)
    (h63 : nn + m ≤ maxLen) (hby : (nn + m) * by_ ≤ 140737488355328)
    (k : ∀ A q w', Sat w0 w' (rowC E sz (.slice A (nn + m) q) (nn + m) (xs ++ news) :: del C i) → ∀ a', Fr a' n ((d, .slice A (nn + m) q) :: L) → wpList P ops Q rest a' w') :
    wpList P ops Q (⟨some d, .call { callee := .builtin .append, args := #[x, y], argTypes := #[t, t] }, ty, pos, af, gd⟩ :: rest) a w :=
  let ⟨_, _, _, hr, hS'⟩ := append_run (dst := some d) (ty := ty) (pos := pos) (af := af) (gd := gd) ht he hx hy hS hi hj hl h1 h63 hby
  s_ev hF hg rfl hn hr (k _ _ _ hS')
theorem d_append {p E sz t by_ nn m c bb : Nat} (i jj : Nat) {x y : Operand} {ty : TypeId} {pos : String} {af : Array Edge} {gd : Option (Nat × Bool)} {xs news : List Value} (hD : Drawn P ops Q S ds ord) (hF : Fr a n L) (hp : ord[p]? = some (j, .on))
    (ho : ops[j]? = some ⟨some d, .call { callee := .builtin .append, args := #[x, y], argTypes := #[t, t] }, ty, pos, af, gd⟩)
    (hg : wantedB ops L ⟨some d, .call { callee := .builtin .append, args := #[x, y], argTypes := #[t, t] }, ty, pos, af, gd⟩ = some true) (hn : Nat.blt d n.size = true) (ht : sliceB P t E sz = true) (he : elemB P E sz by_ = true) (hx : a.eval x = v)
    (hy : a.eval y = .slice (some ⟨bb, 0, none⟩) m c) (hS : Sat w0 w C) (hi : nth C i = some (rowC E sz v nn xs)) (hj : nth C jj = some (.obj bb (.cells news.toArray E (0, 0)))) (hl : news.length = m * sz) (h1 : news.all (fun u => u.oneCell') = true)
    (h63 : nn + m ≤ maxLen) (hby : (nn + m) * by_ ≤ 140737488355328) (hc : ∀ v' w', Sat w0 w' (rowC E sz v' (nn + m) (xs ++ news) :: del C i) → S w')
    (k : ∀ A q w', Sat w0 w' (rowC E sz (.slice A (nn + m) q) (nn + m) (xs ++ news) :: del C i) → ∀ a', Fr a' n ((d, .slice A (nn + m) q) :: L) → wpD P ops Q S ds ord (p + 1) a' w') : wpD P ops Q S ds ord p a w :=
  let ⟨_, _, _, hr, hS'⟩ := append_run (dst := some d) (ty := ty) (pos := pos) (af := af) (gd := gd) ht he hx hy hS hi hj hl h1 h63 hby
  d_ev hD hF hp ho hg rfl hn hr (hc _ _ hS') (k _ _ _ hS')

/-! ### maps -/
section maps0
variable {K V : Type} {kt et : TypeId} {κ : K → Value} {ν : V → Value} {b : Nat} {m : List (K × V)} {x : K} {X Y Z : Operand} {t : TypeId} {ty : TypeId} {pos : String} {af : Array Edge} {gd : Option (Nat × Bool)} {dst : Option Tmp}
theorem rd_maplen (i : Nat) (ht : P.underlying t = some (.map kt et)) (hX : a.eval X = .map (some b)) (hS : Sat w0 w C) (hi : nth C i = some (mapC κ ν b m)) :
    Rd P a.eval w ⟨dst, .call { callee := .builtin .len, args := #[X], argTypes := #[t] }, ty, pos, af, gd⟩ (.int .i64 m.length) := by
  have := run_maplen ht (hS.front i hi) ty
  unfold Rd
  simp only [execOp, resolve, invoke, builtin, Sem.run_bind, Sem.run_pure, Result.andThen_ok, List.map_toArray, List.map_cons, List.map_nil, hX, this]
end maps0
section maps
variable {K V : Type} [DecidableEq K] {kt et : TypeId} {κ : K → Value} {ν : V → Value} {b : Nat} {m : List (K × V)} {x : K} {X Y Z : Operand} {t : TypeId} {ty : TypeId} {pos : String} {af : Array Edge} {gd : Option (Nat × Bool)} {dst : Option Tmp}
theorem rd_look {z : Value} (i : Nat) (hK : Keys P kt κ) (ht : P.underlying t = some (.map kt et)) (hz : zeroO P et = some z) (hX : a.eval X = .map (some b)) (hY : a.eval Y = κ x) (hS : Sat w0 w C) (hi : nth C i = some (mapC κ ν b m)) :
    Rd P a.eval w ⟨dst, .lookup t X Y true, ty, pos, af, gd⟩ (match mGet m x with | some v => .tuple #[ν v, .bool true] | none => .tuple #[z, .bool false]) := by
  have := run_look hK ht hz (hS.front i hi) x true
  unfold Rd
  simp only [execOp, hX, hY, Sem.run_bind, this, Result.andThen_ok]
  cases mGet m x <;> rfl
theorem rd_look1 {z : Value} (i : Nat) (hK : Keys P kt κ) (ht : P.underlying t = some (.map kt et)) (hz : zeroO P et = some z) (hX : a.eval X = .map (some b)) (hY : a.eval Y = κ x) (hS : Sat w0 w C) (hi : nth C i = some (mapC κ ν b m)) :
    Rd P a.eval w ⟨dst, .lookup t X Y false, ty, pos, af, gd⟩ (match mGet m x with | some v => ν v | none => z) := by
  have := run_look hK ht hz (hS.front i hi) x false
  unfold Rd
  simp only [execOp, hX, hY, Sem.run_bind, this, Result.andThen_ok]
  cases mGet m x <;> rfl
theorem put_run {v : V} (i : Nat) (hK : Keys P kt κ) (ht : P.underlying t = some (.map kt et)) (hX : a.eval X = .map (some b)) (hY : a.eval Y = κ x) (hZ : a.eval Z = ν v) (hS : Sat w0 w C) (hi : nth C i = some (mapC κ ν b m)) :
    ∃ w', (execOp a.eval ⟨dst, .mapUpdate t X Y Z, ty, pos, af, gd⟩).run P w = .ok .skip w' ∧ Sat w0 w' (upd C i (mapC κ ν b (mPut m x v))) := by
  obtain ⟨w', hr, hS'⟩ := run_put hK ht (hS.front i hi) x v
  exact ⟨w', by simp only [execOp, hX, hY, hZ, Sem.run_bind, hr, Result.andThen_ok, Sem.run_pure], hS'.back hi⟩
theorem del_run (i : Nat) (hK : Keys P kt κ) (ht : P.underlying t = some (.map kt et)) (hX : a.eval X = .map (some b)) (hY : a.eval Y = κ x) (hS : Sat w0 w C) (hi : nth C i = some (mapC κ ν b m)) :
    ∃ w', (execOp a.eval ⟨dst, .call { callee := .builtin .delete, args := #[X, Y], argTypes := #[t, kt] }, ty, pos, af, gd⟩).run P w = .ok (.value (.tuple #[])) w' ∧ Sat w0 w' (upd C i (mapC κ ν b (mDel m x))) := by
  obtain ⟨w', hr, hS'⟩ := run_del (ty := ty) hK ht (hS.front i hi) x
  refine ⟨w', ?_, hS'.back hi⟩
  simp only [execOp, resolve, invoke, builtin, Sem.run_bind, Sem.run_pure, Result.andThen_ok, List.map_toArray, List.map_cons, List.map_nil, hX, hY, hr]
theorem s_put {v : V} (i : Nat) (hF : Fr a n L) (hg : wantedB ops L ⟨none, .mapUpdate t X Y Z, ty, pos, af, gd⟩ = some true) (hK : Keys P kt κ) (ht : P.underlying t = some (.map kt et)) (hX : a.eval X = .map (some b)) (hY : a.eval Y = κ x) (hZ : a.eval Z = ν v)
    (hS : Sat w0 w C) (hi : nth C i = some (mapC κ ν b m)) (k : ∀ w', Sat w0 w' (upd C i (mapC κ ν b (mPut m x v))) → wpList P ops Q rest a w') : wpList P ops Q (⟨none, .mapUpdate t X Y Z, ty, pos, af, gd⟩ :: rest) a w :=
  let ⟨_, hr, hS'⟩ := put_run i hK ht hX hY hZ hS hi
  s_sk hF hg rfl hr (k _ hS')
theorem l_put {p : Nat} {v : V} (i : Nat) (hD : Drawn P ops Q S ds ord) (hF : Fr a n L) (hp : ord[p]? = some (j, .ls)) (ho : ops[j]? = some ⟨none, .mapUpdate t X Y Z, ty, pos, af, gd⟩) (hg : wantedB ops L ⟨none, .mapUpdate t X Y Z, ty, pos, af, gd⟩ = some true) (hK : Keys P kt κ)
    (ht : P.underlying t = some (.map kt et)) (hX : a.eval X = .map (some b)) (hY : a.eval Y = κ x) (hZ : a.eval Z = ν v) (hS : Sat w0 w C) (hi : nth C i = some (mapC κ ν b m)) (k : ∀ w', Sat w0 w' (upd C i (mapC κ ν b (mPut m x v))) → wpD P ops Q S ds ord (p + 1) a w') : wpD P ops Q S ds ord p a w :=
  let ⟨_, hr, hS'⟩ := put_run i hK ht hX hY hZ hS hi
  l_sk hD hF hp ho hg rfl hr (k _ hS')
theorem d_put {p : Nat} {v : V} (i : Nat) (hD : Drawn P ops Q S ds ord) (hF : Fr a n L) (hp : ord[p]? = some (j, .on)) (ho : ops[j]? = some ⟨none, .mapUpdate t X Y Z, ty, pos, af, gd⟩) (hg : wantedB ops L ⟨none, .mapUpdate t X Y Z, ty, pos, af, gd⟩ = some true) (hK : Keys P kt κ)
    (ht : P.underlying t = some (.map kt et)) (hX : a.eval X = .map (some b)) (hY : a.eval Y = κ x) (hZ : a.eval Z = ν v) (hS : Sat w0 w C) (hi : nth C i = some (mapC κ ν b m)) (hc : ∀ w', Sat w0 w' (upd C i (mapC κ ν b (mPut m x v))) → S w')
    (k : ∀ w', Sat w0 w' (upd C i (mapC κ ν b (mPut m x v))) → wpD P ops Q S ds ord (p + 1) a w') : wpD P ops Q S ds ord p a w :=
  let ⟨_, hr, hS'⟩ := put_run i hK ht hX hY hZ hS hi
  d_sk hD hF hp ho hg rfl hr (hc _ hS') (k _ hS')
theorem s_del (i : Nat) (hF : Fr a n L) (hg : wantedB ops L ⟨none, .call { callee := .builtin .delete, args := #[X, Y], argTypes := #[t, kt] }, ty, pos, af, gd⟩ = some true) (hK : Keys P kt κ) (ht : P.underlying t = some (.map kt et)) (hX : a.eval X = .map (some b)) (hY : a.eval Y = κ x)
    (hS : Sat w0 w C) (hi : nth C i = some (mapC κ ν b m)) (k : ∀ w', Sat w0 w' (upd C i (mapC κ ν b (mDel m x))) → wpList P ops Q rest a w') : wpList P ops Q (⟨none, .call { callee := .builtin .delete, args := #[X, Y], argTypes := #[t, kt] }, ty, pos, af, gd⟩ :: rest) a w :=
  let ⟨_, hr, hS'⟩ := del_run i hK ht hX hY hS hi
  s_ev0 hF hg rfl hr (k _ hS')
theorem l_del {p : Nat} (i : Nat) (hD : Drawn P ops Q S ds ord) (hF : Fr a n L) (hp : ord[p]? = some (j, .ls)) (ho : ops[j]? = some ⟨none, .call { callee := .builtin .delete, args := #[X, Y], argTypes := #[t, kt] }, ty, pos, af, gd⟩)
    (hg : wantedB ops L ⟨none, .call { callee := .builtin .delete, args := #[X, Y], argTypes := #[t, kt] }, ty, pos, af, gd⟩ = some true) (hK : Keys P kt κ) (ht : P.underlying t = some (.map kt et)) (hX : a.eval X = .map (some b)) (hY : a.eval Y = κ x)
    (hS : Sat w0 w C) (hi : nth C i = some (mapC κ ν b m)) (k : ∀ w', Sat w0 w' (upd C i (mapC κ ν b (mDel m x))) → wpD P ops Q S ds ord (p + 1) a w') : wpD P ops Q S ds ord p a w :=
  let ⟨_, hr, hS'⟩ := del_run i hK ht hX hY hS hi
  l_ev0 hD hF hp ho hg rfl hr (k _ hS')
end maps
end steps
/-- A truth in slot t: both ways. -/
theorem fr_split {G : Prop} {a : Act} {n : Shape} {t : Nat} {L : List (Nat × Value)} {b : Bool} (hF : Fr a n L) (hl : look L t = some (.bool b)) (ht : b = true → Fr a n ((t, .bool true) :: L) → G) (hf : b = false → Fr a n ((t, .bool false) :: L) → G) : G := by
  cases b with
  | true => exact ht rfl (fr_bool hF hl rfl)
  | false => exact hf rfl (fr_bool hF hl rfl)
/-- The cells of a part of a block. -/
theorem cells_of {w : World} {b off n : Nat} {cs : Array Value} {e : TypeId} {fz : Nat × Nat} (h : w.heap[b]? = some (.cells cs e fz)) (hl : off + n ≤ cs.size) :
    ∀ j v, ((cs.toList.drop off).take n)[j]? = some v → w.cell? ⟨b, off + j, none⟩ = some v := by
  intro j v hj
  rw [List.getElem?_take] at hj
  split at hj
  · rw [List.getElem?_drop] at hj
    simpa [World.cell?, h] using hj
  · cases hj
def lgetN : List Value → Nat → Nat → Option (List Value)
  | _, 0, 0 => some []
  | v :: r, 0, n + 1 => match lgetN r 0 n with
    | some l => some (v :: l)
    | none => none
  | _ :: r, o + 1, n => lgetN r o n
  | [], _, _ => none
theorem lgetN_at : ∀ (l : List Value) (o n : Nat) (vs : List Value), lgetN l o n = some vs → vs.length = n ∧ ∀ j v, vs[j]? = some v → l[o + j]? = some v
  | l, 0, 0, vs, h => by
    cases l <;> simp [lgetN] at h <;> subst h <;> simp
  | v :: r, 0, n + 1, vs, h => by
    simp only [lgetN] at h
    split at h
    · rename_i l hl
      injection h with h
      subst h
      obtain ⟨h1, h2⟩ := lgetN_at r 0 n l hl
      refine ⟨by simp [h1], fun j u hj => ?_⟩
      cases j with
      | zero => simpa using hj
      | succ j => simpa using h2 j u (by simpa using hj)
    · cases h
  | _ :: r, o + 1, n, vs, h => by
    simp only [lgetN] at h
    obtain ⟨h1, h2⟩ := lgetN_at r o n vs h
    refine ⟨h1, fun j u hj => ?_⟩
    rw [show o + 1 + j = (o + j) + 1 by omega]
    simpa using h2 j u hj
  | [], 0, n + 1, vs, h => by simp [lgetN] at h
  | [], o + 1, n, vs, h => by simp [lgetN] at h
/-- A struct out of a block that is told. -/
theorem rd_loadB {P : Program} {a : Act} {w0 w : World} {C : List Chunk} {i t n b off : Nat} {x : Operand} {cs : Array Value} {e : TypeId} {fz : Nat × Nat} {vs : List Value} {dst : Option Tmp} {ty : TypeId} {pos : String} {af : Array Edge} {gd : Option (Nat × Bool)}
    (ht : aggB P t n = true) (hx : a.eval x = .pointer (some ⟨b, off, none⟩)) (hS : Sat w0 w C) (hi : nth C i = some (.obj b (.cells cs e fz))) (hv : lgetN cs.toList off n = some vs) : Rd P a.eval w ⟨dst, .load t x, ty, pos, af, gd⟩ (.agg vs.toArray) := by
  obtain ⟨h1, h2⟩ := lgetN_at _ _ _ _ hv
  exact rd_loadN ht hx h1 (fun j v hj => hS.cell hi (by simpa using h2 j v hj))
theorem cells_one {v : Value} (h : v.oneCell' = true) : v.cells.toList = [v] := by
  cases v <;> first | rfl | (simp [Value.oneCell'] at h)
section look2
variable {P : Program} {a : Act} {w0 w : World} {C : List Chunk} {K V : Type} [DecidableEq K] {kt et : TypeId} {κ : K → Value} {ν : V → Value} {b : Nat} {m : List (K × V)} {x : K} {X Y : Operand} {t : TypeId} {ty : TypeId} {pos : String} {af : Array Edge} {gd : Option (Nat × Bool)} {dst : Option Tmp}
theorem rd_look_s {z : Value} {v : V} (i : Nat) (hK : Keys P kt κ) (ht : P.underlying t = some (.map kt et)) (hz : zeroO P et = some z) (hX : a.eval X = .map (some b)) (hY : a.eval Y = κ x) (hS : Sat w0 w C) (hi : nth C i = some (mapC κ ν b m)) (hm : mGet m x = some v) :
    Rd P a.eval w ⟨dst, .lookup t X Y true, ty, pos, af, gd⟩ (.tuple #[ν v, .bool true]) := by
  have := rd_look (dst := dst) (ty := ty) (pos := pos) (af := af) (gd := gd) i hK ht hz hX hY hS hi
  rw [hm] at this
  exact this
theorem rd_look_n {z : Value} (i : Nat) (hK : Keys P kt κ) (ht : P.underlying t = some (.map kt et)) (hz : zeroO P et = some z) (hX : a.eval X = .map (some b)) (hY : a.eval Y = κ x) (hS : Sat w0 w C) (hi : nth C i = some (mapC κ ν b m)) (hm : mGet m x = none) :
    Rd P a.eval w ⟨dst, .lookup t X Y true, ty, pos, af, gd⟩ (.tuple #[z, .bool false]) := by
  have := rd_look (dst := dst) (ty := ty) (pos := pos) (af := af) (gd := gd) i hK ht hz hX hY hS hi
  rw [hm] at this
  exact this
end look2
theorem storeA_one {l : List Value} {off : Nat} {v : Value} (h : off < l.length) : storeA l.toArray off [v] = (l.set off v).toArray := by
  unfold storeA putL
  congr 1
  rw [List.set_eq_take_append_cons_drop, if_pos h]
  simp
section exits
variable {K : Act → World → Prop} {Q : Exit → Act → World → Prop} {a : Act} {w : World} {i j : Nat}
theorem then_ret (h : Q .ret a w) : Exit.then K Q .ret a w := h
theorem blk_ret (h : Q .ret a w) : Exit.inBlock i Q .ret a w := h
theorem then_exit (h : Q (.exit i) a w) : Exit.then K Q (.exit i) a w := h
theorem blk_exit (h : Q .normal a w) : Exit.inBlock i Q (.exit i) a w := by unfold Exit.inBlock; simpa using h
theorem blk_other (hne : Nat.beq j i = false) (h : Q (.exit j) a w) : Exit.inBlock i Q (.exit j) a w := by
  have : j ≠ i := by intro e; subst e; simp at hne
  unfold Exit.inBlock
  simpa [this] using h
theorem blk_normal (h : Q .normal a w) : Exit.inBlock i Q .normal a w := h
end exits
end Go.Proofs.Ytbfdebddoncfhaa.Sk
/-! Sk, part seven: single elements of rows. -/
namespace Go.Proofs.Ytbfdebddoncfhaa.Sk
open Go Go.RowKit
open Go.Proofs.YtbfdebddoncfhaaW.PrintLast
set_option linter.unusedVariables false
set_option linter.unusedSimpArgs false

section rows
variable {w0 w : World} {C : List Chunk} {E sz : Nat} {n : Nat} {xs : List Value}
/-- Element k of a row of one-cell elements, told at place i. -/
theorem row_at {i g c k : Nat} {v : Value} (h : Sat w0 w C) (hi : nth C i = some (rowC E 1 (.slice (some ⟨g, 0, none⟩) n c) n xs)) (hv : xs[k]? = some v) : w.cell? ⟨g, 0 + (k : Int).toNat * 1, none⟩ = some v := by
  have hl := row_len (h.front i hi)
  have hk : k < xs.length := (List.getElem?_eq_some_iff.1 hv).1
  obtain ⟨g', c', e, _, hh⟩ := row_cell (h.front i hi) (by omega)
  injection e with e _ _
  injection e with e
  injection e with e
  subst e
  have := hh _ _ hv
  rw [Int.toNat_natCast, Nat.zero_add, Nat.mul_one]
  exact this
theorem row_at0 {i g c : Nat} {v : Value} (h : Sat w0 w C) (hi : nth C i = some (rowC E 1 (.slice (some ⟨g, 0, none⟩) n c) n xs)) (hv : xs[0]? = some v) : w.cell? ⟨g, 0 + (0 : Int).toNat * 1, none⟩ = some v := row_at (k := 0) h hi hv
/-- A row that is not empty has an address. -/
theorem row_some {i c : Nat} {A : Option Addr} (h : Sat w0 w C) (hi : nth C i = some (rowC E sz (.slice A n c) n xs)) (hk : 0 < n) : ∃ g, A = some ⟨g, 0, none⟩ := by
  obtain ⟨g', c', e, _, _⟩ := row_cell (h.front i hi) hk
  injection e with e _ _
  exact ⟨g', e⟩
/-- Element k of a row of one-cell elements is written. -/
theorem sat_rstore {i g c k : Nat} {v : Value} (h : Sat w0 w C) (hi : nth C i = some (rowC E 1 (.slice (some ⟨g, 0, none⟩) n c) n xs)) (hk : k < n) : ∃ cs, w.heap[g]? = some (.cells cs E (0, 0)) ∧ k + 1 ≤ cs.size ∧
    Sat w0 (w.setRow g (storeA cs k [v])) (upd C i (rowC E 1 (.slice (some ⟨g, 0, none⟩) n c) n (xs.set k v))) := by
  have h' := h.front i hi
  rcases (row_open h').2 with ⟨e, _⟩ | ⟨g', cap, cur, e, h1, h2, h3, h4, h5⟩
  · cases e
  · injection e with e e1 e2
    injection e with e
    injection e with e
    subst e
    subst e2
    have hsz : k < cur.size := by omega
    refine ⟨cur, h5.obj, hsz, ?_⟩
    have h6 := sat_setRow (i := 0) (cs' := storeA cur k [v]) h5 rfl
    refine (row_shut (n := n) (cap := c) h6 h1 h2 ?_ ?_).back hi
    · simp only [storeA, putL, List.size_toArray, List.length_append, List.length_take, List.length_drop, List.length_cons, List.length_nil, Array.length_toList]
      omega
    · rw [← h4]
      have : (storeA cur k [v]).toList = cur.toList.set k v := by
        unfold storeA putL
        rw [List.set_eq_take_append_cons_drop, if_pos (by simpa using hsz)]
        simp
      rw [this, List.take_set]
end rows

section steps
variable {P : Program} {ops : Array Oper} {Q : Exit → Act → World → Prop} {rest : List Oper} {o : Oper} {a : Act} {w0 w w' : World} {n : Shape} {d : Nat} {L : List (Nat × Value)} {v : Value} {C : List Chunk}
variable {S : World → Prop} {ds : List Nat} {ord : List (Nat × How)} {k j : Nat}
theorem rstore_run {dst : Option Tmp} {ty : TypeId} {pos : String} {af : Array Edge} {gd : Option (Nat × Bool)} {t g i E nn c : Nat} {x y : Operand} {xs : List Value} (hx : a.eval x = .pointer (some ⟨g, 0 + (k : Int).toNat * 1, none⟩)) (hy : a.eval y = v) (hz : sizeB P t 1 = true)
    (h1 : v.oneCell' = true) (hS : Sat w0 w C) (hi : nth C i = some (rowC E 1 (.slice (some ⟨g, 0, none⟩) nn c) nn xs)) (hk : k < nn) :
    ∃ w', (execOp a.eval ⟨dst, .store t x y, ty, pos, af, gd⟩).run P w = .ok .skip w' ∧ Sat w0 w' (upd C i (rowC E 1 (.slice (some ⟨g, 0, none⟩) nn c) nn (xs.set k v))) := by
  obtain ⟨cs, hg, hfit, hS'⟩ := sat_rstore (v := v) hS hi hk
  rw [Int.toNat_natCast, Nat.zero_add, Nat.mul_one] at hx
  exact ⟨_, run_store_row hx hy (cells_one h1) hz (fun u hu => by simp at hu; subst hu; exact h1) hg hfit, hS'⟩
theorem s_rstore {t g E nn c : Nat} {x y : Operand} {ty : TypeId} {pos : String} {af : Array Edge} {gd : Option (Nat × Bool)} (i : Nat) {xs : List Value} (hF : Fr a n L) (hg : wantedB ops L ⟨none, .store t x y, ty, pos, af, gd⟩ = some true)
    (hx : a.eval x = .pointer (some ⟨g, 0 + (k : Int).toNat * 1, none⟩)) (hy : a.eval y = v) (hS : Sat w0 w C) (hi : nth C i = some (rowC E 1 (.slice (some ⟨g, 0, none⟩) nn c) nn xs)) (hz : sizeB P t 1 = true) (h1 : v.oneCell' = true) (hk : k < nn)
    (kk : ∀ w', Sat w0 w' (upd C i (rowC E 1 (.slice (some ⟨g, 0, none⟩) nn c) nn (xs.set k v))) → wpList P ops Q rest a w') : wpList P ops Q (⟨none, .store t x y, ty, pos, af, gd⟩ :: rest) a w :=
  let ⟨_, hr, hS'⟩ := rstore_run hx hy hz h1 hS hi hk
  s_sk hF hg rfl hr (kk _ hS')
theorem l_rstore {p t g E nn c : Nat} {x y : Operand} {ty : TypeId} {pos : String} {af : Array Edge} {gd : Option (Nat × Bool)} (i : Nat) {xs : List Value} (hD : Drawn P ops Q S ds ord) (hF : Fr a n L) (hp : ord[p]? = some (j, .ls))
    (ho : ops[j]? = some ⟨none, .store t x y, ty, pos, af, gd⟩) (hg : wantedB ops L ⟨none, .store t x y, ty, pos, af, gd⟩ = some true)
    (hx : a.eval x = .pointer (some ⟨g, 0 + (k : Int).toNat * 1, none⟩)) (hy : a.eval y = v) (hS : Sat w0 w C) (hi : nth C i = some (rowC E 1 (.slice (some ⟨g, 0, none⟩) nn c) nn xs)) (hz : sizeB P t 1 = true) (h1 : v.oneCell' = true) (hk : k < nn)
    (kk : ∀ w', Sat w0 w' (upd C i (rowC E 1 (.slice (some ⟨g, 0, none⟩) nn c) nn (xs.set k v))) → wpD P ops Q S ds ord (p + 1) a w') : wpD P ops Q S ds ord p a w :=
  let ⟨_, hr, hS'⟩ := rstore_run hx hy hz h1 hS hi hk
  l_sk hD hF hp ho hg rfl hr (kk _ hS')
end steps

section passed
variable {P : Program} {ops : Array Oper} {Q : Exit → Act → World → Prop} {S : World → Prop} {ds : List Nat} {ord : List (Nat × How)} {i j : Nat} {o : Oper} {a : Act} {w w' : World} {n : Shape} {d : Nat} {L : List (Nat × Value)} {v : Value}
/-- An effect that is passed by. -/
theorem d_noon (hD : Drawn P ops Q S ds ord) (hF : Fr a n L) (hp : ord[i]? = some (j, .on)) (ho : ops[j]? = some o) (hg : wantedB ops L o = some false) (hd : o.dst = some d) (hn : Nat.blt d n.size = true) (hS : S w)
    (k : ∀ a', Fr a' n ((d, undef) :: L) → wpD P ops Q S ds ord (i + 1) a' w) : wpD P ops Q S ds ord i a w := by
  obtain ⟨hc, hi⟩ := chk_at hD.ok hp
  simp only [chk1, Bool.and_eq_true] at hc
  unfold wpD
  rw [show ops.size - i = (ops.size - (i + 1)) + 1 by omega]
  refine one_ (lst ops.size ord (i + 1)) ho hd hc.1 (by simpa using hc.2) fun K hK => ?_
  rw [wanted_of hF hg, if_neg (by simp)]
  exact hK _ _ hS fun _ => k _ (hF.put hn _)
theorem l_no (hD : Drawn P ops Q S ds ord) (hF : Fr a n L) (hp : ord[i]? = some (j, .ls)) (ho : ops[j]? = some o) (hg : wantedB ops L o = some false) (hd : o.dst = some d) (hn : Nat.blt d n.size = true)
    (k : ∀ a', Fr a' n ((d, undef) :: L) → wpD P ops Q S ds ord (i + 1) a' w) : wpD P ops Q S ds ord i a w := by
  obtain ⟨hc, hi⟩ := chk_at hD.ok hp
  simp only [chk1, Bool.and_eq_true] at hc
  unfold wpD
  rw [show ops.size - i = (ops.size - (i + 1)) + 1 by omega]
  refine last_ (lst ops.size ord (i + 1)) ho hd hc.1 (by simpa using hc.2) fun K hK => ?_
  rw [wanted_of hF hg, if_neg (by simp)]
  exact hK _ _ (k _ (hF.put hn _))
end passed

/-- What a call does to the chunk at place i. -/
theorem at_place {P : Program} {f : FuncId} {args : Array Value} {w0 w : World} {C : List Chunk} {c : Chunk} {R : Ending → World → Prop} (i : Nat) (hS : Sat w0 w C) (hi : nth C i = some c) (h : Sat w0 w (c :: del C i) → Calls P f args w R) : Calls P f args w R := h (hS.front i hi)
theorem same_place {w0 w : World} {C : List Chunk} {c : Chunk} (i : Nat) (h : Sat w0 w (c :: del C i)) (hi : nth C i = some c) : Sat w0 w C := by
  have := h.perm (nth_perm C i c hi).symm
  exact this
end Go.Proofs.Ytbfdebddoncfhaa.Sk
/-! Sk, part eight: the slices that came in. -/
namespace Go.Proofs.Ytbfdebddoncfhaa.Sk
open Go Go.RowKit
set_option linter.unusedVariables false
set_option linter.unusedSimpArgs false

section ops
variable {P : Program} {ρ : Operand → Value} {dst : Option Tmp} {ty : TypeId} {pos : String} {af : Array Edge} {g : Option (Nat × Bool)}
theorem pu_elemA {t e n : Nat} {x y : Operand} {k : IntKind} {A : Addr} {len cap : Nat} {i : Int} (ht : sliceB P t e n = true) (hx : ρ x = .slice (some A) len cap) (hy : ρ y = .int k i) (h0 : 0 ≤ i) (h1 : i < len) :
    Pu P ρ ⟨dst, .indexAddr t x y, ty, pos, af, g⟩ (.pointer (some (A.add (i.toNat * n)))) := fun w => by
  obtain ⟨hu, j, hj, hn⟩ := sliceB_spec ht
  simp [execOp, hx, hy, Instr.indexAt, asIntOf, underlying, program, hu, sizeOf, typeInfo, hj, hn, h0, h1, Sem.run, Sem.bind, bind, pure]
end ops

theorem Sat.whole_at {w0 w W : World} {C : List Chunk} {i : Nat} {p : Addr} {v : Value} (h : Sat w0 w C) (hi : nth C i = some (whole W)) (hv : W.cell? p = some v) : w.cell? p = some v := (h.front i hi).whole_cell hv

/-- A slice of whole numbers that came in: what each place holds. -/
structure IntsIn (W : World) (a : Option Addr) (len : Nat) (zs : List Int) : Prop where
  at_ : ∀ i, i < len → ∃ x, a = some x ∧ W.cell? (x.add i) = some (.int .i64 (zs.getD i 0)) ∧ -9223372036854775808 ≤ zs.getD i 0 ∧ zs.getD i 0 ≤ 9223372036854775807
  len : len ≤ zs.length
def IsRow (k : IntKind) (w : World) (a : Option Addr) (len cap : Nat) (zs : List Int) : Prop :=
  (a = none ∧ len = 0 ∧ cap = 0 ∧ zs = []) ∨
  ∃ x, a = some x ∧ len ≤ cap ∧ cap ≤ maxLen ∧ zs.length = cap ∧ (∀ i, i < zs.length → w.cell? (x.add i) = some (.int k (zs.getD i 0))) ∧ ∀ n ∈ zs, (Lit.int k n).wf = true
theorem wf64 {n : Int} (h : (Lit.int .i64 n).wf = true) : -9223372036854775808 ≤ n ∧ n ≤ 9223372036854775807 := by
  simp only [Lit.wf, Bool.and_eq_true, decide_eq_true_eq] at h
  have e1 : IntKind.min .i64 = -9223372036854775808 := by decide
  have e2 : IntKind.max .i64 = 9223372036854775807 := by decide
  rw [e1, e2] at h
  exact h
theorem IsRow.ints {w : World} {a : Option Addr} {len cap : Nat} {zs : List Int} (h : IsRow .i64 w a len cap zs) : IntsIn w a len zs := by
  rcases h with ⟨rfl, rfl, rfl, rfl⟩ | ⟨x, rfl, hl, hm, hz, hc, hw⟩
  · exact ⟨fun i hi => absurd hi (by omega), Nat.le_refl _⟩
  · refine ⟨fun i hi => ⟨x, rfl, hc i (by omega), ?_⟩, by omega⟩
    have hlt : i < zs.length := by omega
    have := hw (zs.getD i 0) (by
      rw [List.getD_eq_getElem?_getD, List.getElem?_eq_getElem hlt]
      exact List.getElem_mem hlt)
    exact wf64 this
end Go.Proofs.Ytbfdebddoncfhaa.Sk
/-! Sk, part nine: rows of whole numbers that are read, wherever they lie. -/
namespace Go.Proofs.Ytbfdebddoncfhaa.Sk
open Go Go.RowKit
set_option linter.unusedVariables false
set_option linter.unusedSimpArgs false

section ops
variable {P : Program} {ρ : Operand → Value} {dst : Option Tmp} {ty : TypeId} {pos : String} {af : Array Edge} {g : Option (Nat × Bool)}
theorem pu_cutHi {t e' n : Nat} {x hi : Operand} {b o len cap : Nat} {j : Int} (ht : sliceB P t e' n = true) (hx : ρ x = .slice (some ⟨b, o, none⟩) len cap) (hh : ρ hi = .int .i64 j) (h1 : 0 ≤ j) (h2 : j ≤ cap) :
    Pu P ρ ⟨dst, .slice t x none (some hi) none, ty, pos, af, g⟩ (.slice (some ⟨b, o, none⟩) j.toNat cap) := fun w => by
  obtain ⟨hu, q, hq, hn⟩ := sliceB_spec ht
  have h4 : 0 ≤ max j 0 := by omega
  have h5 : ¬ max j 0 < 0 := by omega
  have hz : (sizeOf e').run P w = .ok n w := by simp [sizeOf, typeInfo, program, hq, hn, Sem.run, Sem.bind, bind, pure]
  have e : ∀ A : Addr, A.add 0 = A := fun A => by simp [Addr.add]
  simp [execOp, hx, hh, Instr.sliceAt, Instr.slice, Instr.sliceBounds, Instr.sliceBound, asIntOf, run_underlying hu, h1, h2, h4, h5, hz, e]
end ops

/-- What these places hold, in every world of the form C. -/
structure Reads (w0 : World) (C : List Chunk) (a : Option Addr) (len : Nat) (zs : List Int) : Prop where
  long : zs.length = len
  at_ : ∀ i, i < len → ∃ x, a = some x ∧ ∀ w, Sat w0 w C → w.cell? (x.add ((i : Int).toNat * 1)) = some (.int .i64 (zs.getD i 0))
def ints (zs : List Int) : List Value := zs.map (.int .i64)
theorem Reads.of_in {w0 W : World} {C : List Chunk} {a : Option Addr} {len : Nat} {zs : List Int} (i : Nat) (h : IntsIn W a len zs) (hi : nth C i = some (whole W)) : Reads w0 C a len (zs.take len) := by
  refine ⟨by have := h.len; simp; omega, fun j hj => ?_⟩
  obtain ⟨x, rfl, hv, _⟩ := h.at_ j hj
  refine ⟨x, rfl, fun w hS => ?_⟩
  have hv' := hS.whole_at hi hv
  rw [Int.toNat_natCast, Nat.mul_one, hv']
  simp [List.getD_eq_getElem?_getD, hj]
/-- A row of my own (or its begin). -/
theorem Reads.of_row {w0 : World} {C : List Chunk} {E n c m : Nat} {A : Option Addr} {zs : List Int} {xs : List Value} (i : Nat) (hi : nth C i = some (rowC E 1 (.slice A n c) n xs)) (hz : ∀ k, k < m → xs[k]? = some (.int .i64 (zs.getD k 0))) (hm : zs.length = m) (hA : m ≠ 0 → ∃ g, A = some ⟨g, 0, none⟩) : Reads w0 C A m zs := by
  refine ⟨hm, fun k hk => ?_⟩
  obtain ⟨g, rfl⟩ := hA (by omega)
  refine ⟨_, rfl, fun w hS => ?_⟩
  have := row_at (k := k) hS hi (hz k hk)
  rw [← this]
  congr 1
  unfold Addr.add
  split
  · rename_i h; rw [h]
  · rfl
theorem Reads.cells {w0 w : World} {C : List Chunk} {A : Addr} {len : Nat} {zs : List Int} (h : Reads w0 C (some A) len zs) (hS : Sat w0 w C) : ∀ j u, (ints zs)[j]? = some u → w.cell? (A.add j) = some u := by
  intro j u hu
  unfold ints at hu
  rw [List.getElem?_map] at hu
  cases hz : zs[j]? with
  | none => rw [hz] at hu; cases hu
  | some z =>
    rw [hz] at hu
    injection hu with hu
    subst hu
    have hj := (List.getElem?_eq_some_iff.1 hz).1
    obtain ⟨x, e, hv⟩ := h.at_ j (by rw [← h.long]; exact hj)
    injection e with e
    subst e
    have := hv w hS
    rw [Int.toNat_natCast, Nat.mul_one] at this
    rw [this, List.getD_eq_getElem?_getD, hz]
    rfl
theorem ints_one {zs : List Int} : ∀ u ∈ ints zs, u.oneCell' = true := by
  intro u hu
  obtain ⟨z, _, rfl⟩ := List.mem_map.1 hu
  rfl
section steps
variable {P : Program} {ops : Array Oper} {Q : Exit → Act → World → Prop} {rest : List Oper} {a : Act} {w0 w : World} {n : Shape} {d : Nat} {L : List (Nat × Value)} {C : List Chunk}
/-- append([]int(nil), r...): a row of one's own. -/
theorem s_appendR {t E by_ m c : Nat} {A : Addr} {x y : Operand} {zs : List Int} {ty : TypeId} {pos : String} {af : Array Edge} {gd : Option (Nat × Bool)} (hF : Fr a n L)
    (hg : wantedB ops L ⟨some d, .call { callee := .builtin .append, args := #[x, y], argTypes := #[t, t] }, ty, pos, af, gd⟩ = some true) (hn : Nat.blt d n.size = true) (ht : sliceB P t E 1 = true) (he : elemB P E 1 by_ = true)
    (hx : a.eval x = .slice none 0 0) (hy : a.eval y = .slice (some A) m c) (hS : Sat w0 w C) (hR : Reads w0 C (some A) m zs) (h63 : m ≤ maxLen) (hby : m * by_ ≤ 140737488355328)
    (k : ∀ A' q w', Sat w0 w' (rowC E 1 (.slice A' m q) m (ints zs) :: C) → ∀ a', Fr a' n ((d, .slice A' m q) :: L) → wpList P ops Q rest a' w') :
    wpList P ops Q (⟨some d, .call { callee := .builtin .append, args := #[x, y], argTypes := #[t, t] }, ty, pos, af, gd⟩ :: rest) a w := by
  obtain ⟨v', w', hr, hS'⟩ := ef_append (dst := some d) (ty := ty) (pos := pos) (af := af) (gd := gd) (ρ := a.eval) ht he hx hy (row_nil (E := E) (sz := 1) hS) (news := ints zs) (by rw [ints, List.length_map, hR.long]; omega) (hR.cells hS) ints_one (by omega) (by rw [Nat.zero_add]; exact hby)
  rw [Nat.zero_add, List.nil_append] at hS'
  obtain ⟨A', q, rfl, _, _⟩ := row_val hS'
  exact s_ev hF hg rfl hn hr (k _ _ _ hS')
end steps
end Go.Proofs.Ytbfdebddoncfhaa.Sk
