import Derived.Test.YtbpkfifiigpdcaaFc
/-! The wheel: what its memory holds; Now, Len, Left. -/
namespace Go.Proofs.Ytbpkfifiigpdcaa
open Go Go.RowKit Go.Proofs.Ytbpkfifiigpdcaa.Sk
set_option linter.unusedVariables false
set_option linter.unusedSimpArgs false
set_option maxRecDepth 100000

/-- A thing in a slot: its timer, its tick, the thing. -/
structure Ent where
  timer : Int
  at_ : Int
  v : Value
  one : v.oneCell' = true
def Ent.cells (e : Ent) : List Value := [.int .i64 e.timer, .int .i64 e.at_, e.v]
def entCells (l : List Ent) : List Value := l.flatMap Ent.cells
/-- The wheel. -/
structure Whl where
  slots : List (List Ent)
  ticks : List (Int × Int)
  now : Int
  last : Int

/-- The rows of the slots. -/
def rowsC (E : Nat) (hs : List Value) (ls : List (List Ent)) : List Chunk := List.zipWith (fun h l => rowC E 3 h l.length (entCells l)) hs ls

/-- Types: TG the wheel's, TS a slot's, TE an entry's. -/
def wheelC (TG TS TE : Nat) (g : Nat) (W : Whl) : Chunk := exC fun s => exC fun m => exC fun hs => pureC (hs.length = W.slots.length)
  (star (.obj g (.cells #[.slice (some ⟨s, 0, none⟩) W.slots.length W.slots.length, .map (some m), .int .i64 W.now, .int .i64 W.last] TG (0, 0)) ::
    mapC (Value.int .i64) (Value.int .i64) m W.ticks :: .obj s (.cells hs.toArray TS (0, 0)) :: rowsC TE hs W.slots))
theorem wheel_open {TG TS TE g : Nat} {W : Whl} {w0 w : World} {F : List Chunk} : Sat w0 w (wheelC TG TS TE g W :: F) ↔ ∃ s m hs, hs.length = W.slots.length ∧
    Sat w0 w (.obj g (.cells #[.slice (some ⟨s, 0, none⟩) W.slots.length W.slots.length, .map (some m), .int .i64 W.now, .int .i64 W.last] TG (0, 0)) ::
      mapC (Value.int .i64) (Value.int .i64) m W.ticks :: .obj s (.cells hs.toArray TS (0, 0)) :: (rowsC TE hs W.slots ++ F)) := by
  unfold wheelC
  simp only [sat_ex, sat_pure, sat_star, List.cons_append]

theorem now_s {w0 w : World} {g : Nat} {W : Whl} {F : List Chunk} (hS : Sat w0 w (wheelC 76 77 79 g W :: F)) :
    Calls Try.prog 11 #[.pointer (some ⟨g, 0, none⟩)] w fun e w' => e = .returned (.int .i64 W.now) ∧ Sat w0 w' (wheelC 76 77 79 g W :: F) := by
  rw [wheel_open] at hS; obtain ⟨s, m, hs, hl, hS⟩ := hS
  refine enter Try.func11 rfl Try.ntmps11 (Nat.le_of_ble_eq_true rfl) fun a hF => ?_
  refine wp_seq_k fun K0 hK0 => ?_
  refine wp_region_lit ?_
  refine s_pu hF rfl rfl rfl (pu_assign (hF.ev rfl)) ?_; clear hF; intro a hF
  refine s_done ?_
  refine hK0 _ _ ?_; clear hK0
  refine wp_seq_k fun K1 hK1 => ?_
  refine wp_region_lit ?_
  refine s_pu hF rfl rfl rfl (pu_move (hF.ev rfl)) ?_; clear hF; intro a hF
  refine s_pu hF rfl rfl rfl ((by exact pu_nil (hF.ev rfl))) ?_; clear hF; intro a hF
  refine s_pu hF rfl rfl rfl ((by exact pu_field fd76_2 (hF.ev rfl))) ?_; clear hF; intro a hF
  refine s_rd hF rfl rfl rfl (by exact rd_load pl3 (hF.ev rfl) (hS.cellL (i := 0) rfl rfl)) ?_; clear hF; intro a hF
  refine s_pu hF rfl rfl rfl (pu_assign (hF.ev rfl)) ?_; clear hF; intro a hF
  refine s_done ?_
  refine hK1 _ _ ?_; clear hK1
  refine wp_ret ?_
  refine fin1 Try.results11 hF rfl ?_
  exact ⟨rfl, wheel_open.2 ⟨s, m, hs, hl, hS⟩⟩
theorem len_s {w0 w : World} {g : Nat} {W : Whl} {F : List Chunk} (hS : Sat w0 w (wheelC 76 77 79 g W :: F)) :
    Calls Try.prog 14 #[.pointer (some ⟨g, 0, none⟩)] w fun e w' => e = .returned (.int .i64 W.ticks.length) ∧ Sat w0 w' (wheelC 76 77 79 g W :: F) := by
  rw [wheel_open] at hS; obtain ⟨s, m, hs, hl, hS⟩ := hS
  refine enter Try.func14 rfl Try.ntmps14 (Nat.le_of_ble_eq_true rfl) fun a hF => ?_
  refine wp_seq_k fun K0 hK0 => ?_
  refine wp_region_lit ?_
  refine s_pu hF rfl rfl rfl (pu_assign (hF.ev rfl)) ?_; clear hF; intro a hF
  refine s_done ?_
  refine hK0 _ _ ?_; clear hK0
  refine wp_seq_k fun K1 hK1 => ?_
  refine wp_region_lit ?_
  refine s_pu hF rfl rfl rfl (pu_move (hF.ev rfl)) ?_; clear hF; intro a hF
  refine s_pu hF rfl rfl rfl ((by exact pu_nil (hF.ev rfl))) ?_; clear hF; intro a hF
  refine s_pu hF rfl rfl rfl ((by exact pu_field fd76_1 (hF.ev rfl))) ?_; clear hF; intro a hF
  refine s_rd hF rfl rfl rfl (by exact rd_load pl74 (hF.ev rfl) (hS.cellL (i := 0) rfl rfl)) ?_; clear hF; intro a hF
  refine s_rd hF rfl rfl rfl (by exact rd_maplen 1 Try.underlying74 (hF.ev rfl) hS rfl) ?_; clear hF; intro a hF
  refine s_pu hF rfl rfl rfl (pu_assign (hF.ev rfl)) ?_; clear hF; intro a hF
  refine s_done ?_
  refine hK1 _ _ ?_; clear hK1
  refine wp_ret ?_
  refine fin1 Try.results14 hF rfl ?_
  exact ⟨rfl, wheel_open.2 ⟨s, m, hs, hl, hS⟩⟩
theorem now_i {w0 w : World} {g : Nat} {W : Whl} {F : List Chunk} (hS : Sat w0 w (wheelC 86 87 89 g W :: F)) :
    Calls Try.prog 19 #[.pointer (some ⟨g, 0, none⟩)] w fun e w' => e = .returned (.int .i64 W.now) ∧ Sat w0 w' (wheelC 86 87 89 g W :: F) := by
  rw [wheel_open] at hS; obtain ⟨s, m, hs, hl, hS⟩ := hS
  refine enter Try.func19 rfl Try.ntmps19 (Nat.le_of_ble_eq_true rfl) fun a hF => ?_
  refine wp_seq_k fun K0 hK0 => ?_
  refine wp_region_lit ?_
  refine s_pu hF rfl rfl rfl (pu_assign (hF.ev rfl)) ?_; clear hF; intro a hF
  refine s_done ?_
  refine hK0 _ _ ?_; clear hK0
  refine wp_seq_k fun K1 hK1 => ?_
  refine wp_region_lit ?_
  refine s_pu hF rfl rfl rfl (pu_move (hF.ev rfl)) ?_; clear hF; intro a hF
  refine s_pu hF rfl rfl rfl ((by exact pu_nil (hF.ev rfl))) ?_; clear hF; intro a hF
  refine s_pu hF rfl rfl rfl ((by exact pu_field fd86_2 (hF.ev rfl))) ?_; clear hF; intro a hF
  refine s_rd hF rfl rfl rfl (by exact rd_load pl3 (hF.ev rfl) (hS.cellL (i := 0) rfl rfl)) ?_; clear hF; intro a hF
  refine s_pu hF rfl rfl rfl (pu_assign (hF.ev rfl)) ?_; clear hF; intro a hF
  refine s_done ?_
  refine hK1 _ _ ?_; clear hK1
  refine wp_ret ?_
  refine fin1 Try.results19 hF rfl ?_
  exact ⟨rfl, wheel_open.2 ⟨s, m, hs, hl, hS⟩⟩
theorem len_i {w0 w : World} {g : Nat} {W : Whl} {F : List Chunk} (hS : Sat w0 w (wheelC 86 87 89 g W :: F)) :
    Calls Try.prog 18 #[.pointer (some ⟨g, 0, none⟩)] w fun e w' => e = .returned (.int .i64 W.ticks.length) ∧ Sat w0 w' (wheelC 86 87 89 g W :: F) := by
  rw [wheel_open] at hS; obtain ⟨s, m, hs, hl, hS⟩ := hS
  refine enter Try.func18 rfl Try.ntmps18 (Nat.le_of_ble_eq_true rfl) fun a hF => ?_
  refine wp_seq_k fun K0 hK0 => ?_
  refine wp_region_lit ?_
  refine s_pu hF rfl rfl rfl (pu_assign (hF.ev rfl)) ?_; clear hF; intro a hF
  refine s_done ?_
  refine hK0 _ _ ?_; clear hK0
  refine wp_seq_k fun K1 hK1 => ?_
  refine wp_region_lit ?_
  refine s_pu hF rfl rfl rfl (pu_move (hF.ev rfl)) ?_; clear hF; intro a hF
  refine s_pu hF rfl rfl rfl ((by exact pu_nil (hF.ev rfl))) ?_; clear hF; intro a hF
  refine s_pu hF rfl rfl rfl ((by exact pu_field fd86_1 (hF.ev rfl))) ?_; clear hF; intro a hF
  refine s_rd hF rfl rfl rfl (by exact rd_load pl74 (hF.ev rfl) (hS.cellL (i := 0) rfl rfl)) ?_; clear hF; intro a hF
  refine s_rd hF rfl rfl rfl (by exact rd_maplen 1 Try.underlying74 (hF.ev rfl) hS rfl) ?_; clear hF; intro a hF
  refine s_pu hF rfl rfl rfl (pu_assign (hF.ev rfl)) ?_; clear hF; intro a hF
  refine s_done ?_
  refine hK1 _ _ ?_; clear hK1
  refine wp_ret ?_
  refine fin1 Try.results18 hF rfl ?_
  exact ⟨rfl, wheel_open.2 ⟨s, m, hs, hl, hS⟩⟩
theorem now_t {w0 w : World} {g : Nat} {W : Whl} {F : List Chunk} (hS : Sat w0 w (wheelC 98 99 101 g W :: F)) :
    Calls Try.prog 37 #[.pointer (some ⟨g, 0, none⟩)] w fun e w' => e = .returned (.int .i64 W.now) ∧ Sat w0 w' (wheelC 98 99 101 g W :: F) := by
  rw [wheel_open] at hS; obtain ⟨s, m, hs, hl, hS⟩ := hS
  refine enter Try.func37 rfl Try.ntmps37 (Nat.le_of_ble_eq_true rfl) fun a hF => ?_
  refine wp_seq_k fun K0 hK0 => ?_
  refine wp_region_lit ?_
  refine s_pu hF rfl rfl rfl (pu_assign (hF.ev rfl)) ?_; clear hF; intro a hF
  refine s_done ?_
  refine hK0 _ _ ?_; clear hK0
  refine wp_seq_k fun K1 hK1 => ?_
  refine wp_region_lit ?_
  refine s_pu hF rfl rfl rfl (pu_move (hF.ev rfl)) ?_; clear hF; intro a hF
  refine s_pu hF rfl rfl rfl ((by exact pu_nil (hF.ev rfl))) ?_; clear hF; intro a hF
  refine s_pu hF rfl rfl rfl ((by exact pu_field fd98_2 (hF.ev rfl))) ?_; clear hF; intro a hF
  refine s_rd hF rfl rfl rfl (by exact rd_load pl3 (hF.ev rfl) (hS.cellL (i := 0) rfl rfl)) ?_; clear hF; intro a hF
  refine s_pu hF rfl rfl rfl (pu_assign (hF.ev rfl)) ?_; clear hF; intro a hF
  refine s_done ?_
  refine hK1 _ _ ?_; clear hK1
  refine wp_ret ?_
  refine fin1 Try.results37 hF rfl ?_
  exact ⟨rfl, wheel_open.2 ⟨s, m, hs, hl, hS⟩⟩
theorem len_t {w0 w : World} {g : Nat} {W : Whl} {F : List Chunk} (hS : Sat w0 w (wheelC 98 99 101 g W :: F)) :
    Calls Try.prog 36 #[.pointer (some ⟨g, 0, none⟩)] w fun e w' => e = .returned (.int .i64 W.ticks.length) ∧ Sat w0 w' (wheelC 98 99 101 g W :: F) := by
  rw [wheel_open] at hS; obtain ⟨s, m, hs, hl, hS⟩ := hS
  refine enter Try.func36 rfl Try.ntmps36 (Nat.le_of_ble_eq_true rfl) fun a hF => ?_
  refine wp_seq_k fun K0 hK0 => ?_
  refine wp_region_lit ?_
  refine s_pu hF rfl rfl rfl (pu_assign (hF.ev rfl)) ?_; clear hF; intro a hF
  refine s_done ?_
  refine hK0 _ _ ?_; clear hK0
  refine wp_seq_k fun K1 hK1 => ?_
  refine wp_region_lit ?_
  refine s_pu hF rfl rfl rfl (pu_move (hF.ev rfl)) ?_; clear hF; intro a hF
  refine s_pu hF rfl rfl rfl ((by exact pu_nil (hF.ev rfl))) ?_; clear hF; intro a hF
  refine s_pu hF rfl rfl rfl ((by exact pu_field fd98_1 (hF.ev rfl))) ?_; clear hF; intro a hF
  refine s_rd hF rfl rfl rfl (by exact rd_load pl74 (hF.ev rfl) (hS.cellL (i := 0) rfl rfl)) ?_; clear hF; intro a hF
  refine s_rd hF rfl rfl rfl (by exact rd_maplen 1 Try.underlying74 (hF.ev rfl) hS rfl) ?_; clear hF; intro a hF
  refine s_pu hF rfl rfl rfl (pu_assign (hF.ev rfl)) ?_; clear hF; intro a hF
  refine s_done ?_
  refine hK1 _ _ ?_; clear hK1
  refine wp_ret ?_
  refine fin1 Try.results36 hF rfl ?_
  exact ⟨rfl, wheel_open.2 ⟨s, m, hs, hl, hS⟩⟩
end Go.Proofs.Ytbpkfifiigpdcaa
