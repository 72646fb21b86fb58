import Derived.Test.YtbfdebddoncfhaaFc
/-! The wheel: what its memory holds; Now, Len, Left. -/
namespace Go.Proofs.Ytbfdebddoncfhaa
open Go Go.RowKit Go.Proofs.Ytbfdebddoncfhaa.Sk
set_option linter.unusedVariables false
set_option linter.unusedSimpArgs false
set_option maxRecDepth 100000

/-- A thing in a slot: its timer, its tick, the thing. -/
structure Ent where
  timer : Int
  at_ : Int
  v : Value
  one : v.oneCell' = true
def Ent.cells (e : Ent) : List Value := [.int .i64 e.timer, .int .i64 e.at_, e.v]
def entCells (l : List Ent) : List Value := l.flatMap Ent.cells
/-- The wheel. -/
structure Whl where
  slots : List (List Ent)
  ticks : List (Int × Int)
  now : Int
  last : Int

/-- The rows of the slots. -/
def rowsC (E : Nat) (hs : List Value) (ls : List (List Ent)) : List Chunk := List.zipWith (fun h l => rowC E 3 h l.length (entCells l)) hs ls

/-- Types: TG the wheel's, TS a slot's, TE an entry's. -/
def wheelC (TG TS TE : Nat) (g : Nat) (W : Whl) : Chunk := exC fun s => exC fun m => exC fun hs => pureC (hs.length = W.slots.length)
  (star (.obj g (.cells #[.slice (some ⟨s, 0, none⟩) W.slots.length W.slots.length, .map (some m), .int .i64 W.now, .int .i64 W.last] TG (0, 0)) ::
    mapC (Value.int .i64) (Value.int .i64) m W.ticks :: .obj s (.cells hs.toArray TS (0, 0)) :: rowsC TE hs W.slots))
theorem wheel_open {TG TS TE g : Nat} {W : Whl} {w0 w : World} {F : List Chunk} : Sat w0 w (wheelC TG TS TE g W :: F) ↔ ∃ s m hs, hs.length = W.slots.length ∧
    Sat w0 w (.obj g (.cells #[.slice (some ⟨s, 0, none⟩) W.slots.length W.slots.length, .map (some m), .int .i64 W.now, .int .i64 W.last] TG (0, 0)) ::
      mapC (Value.int .i64) (Value.int .i64) m W.ticks :: .obj s (.cells hs.toArray TS (0, 0)) :: (rowsC TE hs W.slots ++ F)) := by
  unfold wheelC
  simp only [sat_ex, sat_pure, sat_star, List.cons_append]

end Go.Proofs.Ytbfdebddoncfhaa
