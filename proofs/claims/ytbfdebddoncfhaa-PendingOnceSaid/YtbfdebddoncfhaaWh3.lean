import Derived.Test.YtbfdebddoncfhaaWh2
/-! The wheel: what is taken out of a slot. -/
namespace Go.Proofs.Ytbfdebddoncfhaa
open Go Go.RowKit Go.Proofs.Ytbfdebddoncfhaa.Sk
set_option linter.unusedVariables false
set_option linter.unusedSimpArgs false
set_option maxRecDepth 100000

/-- A function value that tells of an entry whether it is meant. -/
structure Meant (w0 : World) (fm : FuncId) (caps : Array Value) (cap : Chunk) (p : Ent → Bool) : Prop where
  fn : FnB Try.prog fm
  run : ∀ w C e, Sat w0 w (cap :: C) → Calls Try.prog fm (Value.agg #[.int .i64 e.timer, .int .i64 e.at_, e.v] :: caps.toList).toArray w fun en w' => en = .returned (.bool (p e)) ∧ Sat w0 w' (cap :: C)
theorem Meant.at_ {w0 : World} {fm : FuncId} {caps : Array Value} {cap : Chunk} {p : Ent → Bool} (h : Meant w0 fm caps cap p) {w : World} {C : List Chunk} (e : Ent) (hS : Sat w0 w C) (hc : cap ∈ C) :
    Calls Try.prog fm (Value.agg #[.int .i64 e.timer, .int .i64 e.at_, e.v] :: caps.toList).toArray w fun en w' => en = .returned (.bool (p e)) ∧ Sat w0 w' C := by
  obtain ⟨D, hp, hS'⟩ := hS.of_mem hc
  exact (h.run w D e hS').mono fun en w' ⟨h1, h2⟩ => ⟨h1, h2.perm hp.symm⟩

theorem entCells_at {l : List Ent} {k : Nat} {e : Ent} (h : l[k]? = some e) : ∀ j v, e.cells[j]? = some v → (entCells l)[k * 3 + j]? = some v := by
  intro j v hj
  have hj3 : j < 3 := by have := (List.getElem?_eq_some_iff.1 hj).1; simpa [Ent.cells] using this
  induction l generalizing k with
  | nil => simp at h
  | cons a r ih =>
    cases k with
    | zero =>
      simp at h
      subst h
      simp only [entCells, List.flatMap_cons, Nat.zero_mul, Nat.zero_add]
      rw [List.getElem?_append_left (by simpa [Ent.cells] using hj3)]
      exact hj
    | succ k =>
      have := ih (k := k) (by simpa using h)
      simp only [entCells, List.flatMap_cons] at this ⊢
      rw [List.getElem?_append_right (by simp [Ent.cells]; omega)]
      rw [← this]
      congr 1
      simp [Ent.cells]; omega
theorem entCells_append (l m : List Ent) : entCells (l ++ m) = entCells l ++ entCells m := by simp [entCells]
theorem filter_take_succ (p : Ent → Bool) {l : List Ent} {i : Nat} {e : Ent} (h : l[i]? = some e) : (l.take (i + 1)).filter p = (l.take i).filter p ++ (if p e then [e] else []) := by
  rw [List.take_add_one, h]
  simp only [Option.toList_some, List.filter_append]
  congr 1
  cases hp : p e <;> simp [hp]

def delAll (m : List (Int × Int)) (l : List Ent) : List (Int × Int) := l.foldl (fun m e => mDel m e.timer) m
def Whl.part (W : Whl) (k : Nat) (p : Ent → Bool) : Whl :=
  { W with slots := W.slots.set k ((W.slots.getD k []).filter fun e => !p e), ticks := delAll W.ticks ((W.slots.getD k []).filter p) }

theorem part_i {w0 w : World} {g k : Nat} {W : Whl} {F : List Chunk} {fm : FuncId} {caps : Array Value} {cap : Chunk} {p : Ent → Bool} (hS : Sat w0 w (wheelC 123 124 126 g W :: F)) (hk : k < W.slots.length)
    (hroom : ∀ l ∈ W.slots, (l.length + 1) * 24 ≤ 140737488355328) {ki : Int} (hki : ki = (k : Int)) (hm : Meant w0 fm caps cap p) (hcap : cap ∈ F) :
    Calls Try.prog 49 #[.pointer (some ⟨g, 0, none⟩), .int .i64 ki, .func (.func fm) #[] caps] w fun e w' => ∃ A c, e = .returned (.slice A ((W.slots.getD k []).filter p).length c) ∧
      Sat w0 w' (rowC 126 3 (.slice A ((W.slots.getD k []).filter p).length c) ((W.slots.getD k []).filter p).length (entCells ((W.slots.getD k []).filter p)) :: wheelC 123 124 126 g (W.part k p) :: F) := by
  subst hki
  rw [wheel_open] at hS; obtain ⟨s, m, hs, hl, hS⟩ := hS
  obtain ⟨h, hh⟩ : ∃ h, hs[k]? = some h := ⟨hs[k]'(by omega), List.getElem?_eq_getElem _⟩
  obtain ⟨l, hll⟩ : ∃ l, W.slots[k]? = some l := ⟨W.slots[k], List.getElem?_eq_getElem _⟩
  have hlD : W.slots.getD k [] = l := by simp [List.getD, hll]
  have hr := hroom l (List.mem_of_getElem? hll)
  replace hS := rows_take hS hh hll
  obtain ⟨A, c, rfl, hlc, hA⟩ := row_val hS
  have hcell : hs.toArray[0 + (k : Int).toNat * 1]? = some (.slice A l.length c) := by simpa using hh
  replace hS := row_nil (E := 126) (sz := 3) (row_nil (E := 126) (sz := 3) hS)
  have hfn := hm.fn
  refine enter Try.func49 rfl Try.ntmps49 (Nat.le_of_ble_eq_true rfl) fun a hF => ?_
  refine wp_seq_k fun K0 hK0 => ?_
  refine wp_region_lit ?_
  refine s_pu hF rfl rfl rfl (pu_assign (hF.ev rfl)) ?_; clear hF; intro a hF
  refine s_done ?_
  refine hK0 _ _ ?_; clear hK0
  refine wp_seq_k fun K1 hK1 => ?_
  refine wp_region_lit ?_
  refine s_pu hF rfl rfl rfl (pu_assign (hF.ev rfl)) ?_; clear hF; intro a hF
  refine s_pu hF rfl rfl rfl (pu_assign (hF.ev rfl)) ?_; clear hF; intro a hF
  refine s_done ?_
  refine hK1 _ _ ?_; clear hK1
  refine wp_seq_k fun K2 hK2 => ?_
  refine wp_seq_k fun K3 hK3 => ?_
  refine wp_region_lit ?_
  refine s_pu hF rfl rfl rfl (pu_move (hF.ev rfl)) ?_; clear hF; intro a hF
  refine s_pu hF rfl rfl rfl ((by exact pu_nil (hF.ev rfl))) ?_; clear hF; intro a hF
  refine s_pu hF rfl rfl rfl ((by exact pu_field fd123_0 (hF.ev rfl))) ?_; clear hF; intro a hF
  refine s_rd hF rfl rfl rfl (by exact rd_load pl120 (hF.ev rfl) (hS.cellL (i := 3) rfl rfl)) ?_; clear hF; intro a hF
  refine s_pu hF rfl rfl rfl (pu_move (hF.ev rfl)) ?_; clear hF; intro a hF
  refine s_pu hF rfl rfl rfl ((by exact pu_elem sl120 (hF.ev rfl) (hF.ev rfl) (by omega) (by omega))) ?_; clear hF; intro a hF
  refine s_rd hF rfl rfl rfl (by exact rd_load pl124 (hF.ev rfl) (hS.cell (i := 5) rfl (by assumption))) ?_; clear hF; intro a hF
  refine s_pu hF rfl rfl rfl (pu_len sl124 (hF.ev rfl)) ?_; clear hF; intro a hF
  refine s_pu hF rfl rfl rfl (pu_move (hF.ev rfl)) ?_; clear hF; intro a hF
  refine s_done ?_
  refine hK3 _ _ ?_; clear hK3
  refine wp_block ?_
  refine wp_ind (fun j a w => ∃ (i : Nat) (o c7 : Option Addr) (d7 d8 : Nat), j = l.length - i ∧ i ≤ l.length ∧
    Fr a 49 [(0, .pointer (some ⟨g, 0, none⟩)), (1, .int .i64 k), (2, .func (.func fm) #[] caps), (7, .slice o ((l.take i).filter p).length d7), (8, .slice c7 ((l.take i).filter fun e => !p e).length d8), (17, .slice A l.length c), (18, .int .i64 l.length), (19, .int .i64 i)] ∧
    Sat w0 w (rowC 126 3 (.slice o ((l.take i).filter p).length d7) ((l.take i).filter p).length (entCells ((l.take i).filter p)) ::
      rowC 126 3 (.slice c7 ((l.take i).filter fun e => !p e).length d8) ((l.take i).filter fun e => !p e).length (entCells ((l.take i).filter fun e => !p e)) ::
      rowC 126 3 (.slice A l.length c) l.length (entCells l) ::
      .obj g (.cells #[.slice (some ⟨s, 0, none⟩) W.slots.length W.slots.length, .map (some m), .int .i64 W.now, .int .i64 W.last] 123 (0, 0)) ::
      mapC (Value.int .i64) (Value.int .i64) m (delAll W.ticks ((l.take i).filter p)) :: .obj s (.cells hs.toArray 124 (0, 0)) :: ((rowsC 126 hs W.slots).eraseIdx k ++ F))) l.length
    ⟨0, none, none, 0, 0, by omega, by omega, hF.sub ⟨rfl, rfl, rfl, rfl, rfl, rfl, rfl, rfl, trivial⟩, by simpa [entCells, delAll] using hS⟩ ?_
  clear hS hF
  rintro j a w ⟨i, o, c7, d7, d8, rfl, hi, hF, hS⟩
  refine wp_seq_k fun K4 hK4 => ?_
  refine wp_region_lit ?_
  refine s_pu hF rfl rfl rfl (pu_lss (hF.ev rfl) (hF.ev rfl)) ?_; clear hF; intro a hF
  refine s_done ?_
  refine hK4 _ _ ?_; clear hK4
  refine wp_seq_k fun K5 hK5 => ?_
  refine wp_cond_split (hF.ev rfl) (fun hc0 => ?_) (fun hc0 => ?_)
  · -- cond 0 true
    try simp only [decide_eq_true_eq, decide_eq_false_iff_not, Bool.not_eq_true', Bool.not_eq_false', Int.not_lt, Int.not_le, ne_eq, Decidable.not_not, Bool.or_eq_true, Bool.or_eq_false_iff, Bool.and_eq_true, Bool.and_eq_false_imp] at hc0
    have hil : i < l.length := by omega
    obtain ⟨e, he⟩ : ∃ e, l[i]? = some e := ⟨l[i], List.getElem?_eq_getElem _⟩
    obtain ⟨gh, ch, hAe, _, _⟩ := row_cell (hS.sel [2]) (by omega)
    injection hAe with hAe _ hce
    subst hAe
    have h1 := List.length_filter_le p (l.take i)
    have h2 := List.length_filter_le (fun e => !p e) (l.take i)
    have h3 : (l.take i).length = i := by simp; omega
    have hev := e.one
    refine wp_skip ?_
    refine hK5 _ _ ?_; clear hK5
    refine wp_seq_k fun K6 hK6 => ?_
    refine wp_block ?_
    refine wp_seq_k fun K7 hK7 => ?_
    refine wp_region_lit ?_
    refine s_pu hF rfl rfl rfl ((by exact pu_elem sl124 (hF.ev rfl) (hF.ev rfl) (by omega) (by omega))) ?_; clear hF; intro a hF
    refine s_rd hF rfl rfl rfl (rd_loadN (vs := [.int .i64 e.timer, .int .i64 e.at_, e.v]) ag126 (hF.ev rfl) rfl (row_load (i := 2) hS rfl (by omega) (entCells_at he))) ?_; clear hF; intro a hF
    refine s_newp hF rfl rfl rfl (ef_alloc (cs := #[_, _, _]) ze126 rfl) hS ?_; clear hF hS; intro b10 w hS a hF
    (((refine s_store (vs := [_, _, _]) (cs' := #[_, _, _]) 0 hF rfl (hF.ev rfl) (hF.ev rfl) hS rfl rfl sz126 (by ((simp only [List.all_cons, List.all_nil, Value.oneCell', Bool.and_true, Bool.true_and]; assumption))) (by exact Nat.le_of_ble_eq_true rfl) rfl ?_)))
    clear hS; intro w hS; (try simp only [upd, del] at hS)
    refine s_done ?_
    refine hK7 _ _ ?_; clear hK7
    refine wp_seq_k fun K8 hK8 => ?_
    refine wp_region_lit ?_
    refine s_pu hF rfl rfl rfl (pu_move (hF.ev rfl)) ?_; clear hF; intro a hF
    refine s_rd hF rfl rfl rfl (by exact rd_loadB (i := 0) (vs := [_, _, _]) ag126 (hF.ev rfl) hS rfl rfl) ?_; clear hF; intro a hF
    refine s_en hF rfl rfl rfl (run_fn hm.fn (hF.ev rfl) (hF.evs rfl)) (hm.at_ e hS (by simp [hcap])) ?_
    clear hS; rintro e w ⟨rfl, hS⟩
    refine ⟨_, rfl, ?_⟩; clear hF; intro a hF
    refine s_done ?_
    refine hK8 _ _ ?_; clear hK8
    refine wp_cond_split (hF.ev rfl) (fun hc1 => ?_) (fun hc1 => ?_)
    · -- cond 1 true
      refine wp_seq_k fun K9 hK9 => ?_
      refine wp_region_lit ?_
      refine s_pu hF rfl rfl rfl (pu_move (hF.ev rfl)) ?_; clear hF; intro a hF
      refine s_rd hF rfl rfl rfl (by exact rd_loadB (i := 0) (vs := [_, _, _]) ag126 (hF.ev rfl) hS rfl rfl) ?_; clear hF; intro a hF
      refine s_news hF rfl rfl rfl (ef_lit1 (cs := [_, _, _]) sl124 ze126 rfl (hF.ev rfl) (by rfl) rfl (by omega) (by omega)) hS ?_; clear hF hS; intro b28 w hS a hF
      (((refine s_append 2 0 hF rfl rfl sl124 el126 (hF.ev rfl) (hF.ev rfl) hS rfl rfl rfl (by ((simp only [List.all_cons, List.all_nil, Value.oneCell', Bool.and_true, Bool.true_and]; assumption))) (by unfold maxLen; omega) (by omega) ?_))); (clear hS hF; intro A29 q29 w hS a hF; (try simp only [upd, del] at hS))
      refine s_pu hF rfl rfl rfl (pu_assign (hF.ev rfl)) ?_; clear hF; intro a hF
      refine s_done ?_
      refine hK9 _ _ ?_; clear hK9
      refine d_start (S := (fun w => Sat w0 w _)) (ds := [6]) (ord := [(0, .pu), (1, .pu), (2, .pu), (3, .tk), (4, .pu), (5, .tk), (6, .ls)]) mixed ⟨by kernel_rfl, fun _ d _ _ _ h => by cases d <;> exact h⟩ hS.drew fun hD => ?_
      replace hS := hS.drew; generalize w.drew = w at hS ⊢
      refine d_pu hD hF rfl rfl rfl rfl rfl (pu_move (hF.ev rfl)) ?_; clear hF; intro a hF
      refine d_pu hD hF rfl rfl rfl rfl rfl ((by exact pu_nil (hF.ev rfl))) ?_; clear hF; intro a hF
      refine d_pu hD hF rfl rfl rfl rfl rfl ((by exact pu_field fd123_1 (hF.ev rfl))) ?_; clear hF; intro a hF
      refine d_rd hD hF rfl rfl rfl rfl rfl hS (fun w hS => (by exact rd_load pl121 (hF.ev rfl) (hS.cellL (i := 5) rfl rfl))) ?_; clear hF; intro a hF
      refine d_pu hD hF rfl rfl rfl rfl rfl ((by exact pu_field fd126_0 (hF.ev rfl))) ?_; clear hF; intro a hF
      refine d_rd hD hF rfl rfl rfl rfl rfl hS (fun w hS => (by exact rd_load pl3 (hF.ev rfl) (hS.cellL (i := 2) rfl rfl))) ?_; clear hF; intro a hF
      ((refine l_del 6 hD hF rfl rfl rfl (int_keys Try.underlying3) Try.underlying121 (hF.ev rfl) (hF.ev rfl) hS rfl ?_))
      clear hS; intro w hS; (try simp only [upd, del] at hS)
      refine d_done hD rfl ?_; clear hD
      refine blk_normal ?_
      refine hK6 _ _ ?_; clear hK6
      refine wp_region_lit ?_
      refine s_pu hF rfl rfl rfl ((by exact pu_add64 (hF.ev rfl) (hF.ev rfl) (by omega))) ?_; clear hF; intro a hF
      refine s_pu hF rfl rfl rfl (pu_move (hF.ev rfl)) ?_; clear hF; intro a hF
      refine s_done ?_
      have e1 := filter_take_succ p he
      have e2 := filter_take_succ (fun e => !p e) he
      simp only [hc1] at e1 e2
      simp at e1 e2
      refine ⟨l.length - (i + 1), by omega, i + 1, ?_⟩
      simp only [e1, e2, List.length_append, List.length_cons, List.length_nil, Nat.zero_add, Nat.add_zero]
      replace hS := (hS.drop 1).drop 1
      simp only [del] at hS
      first
        | exact ⟨A29, c7, q29, d8, trivial, by omega, hF.sub ⟨rfl, rfl, rfl, rfl, rfl, rfl, rfl, rfl, trivial⟩, by simpa [entCells_append, delAll, entCells, Ent.cells] using hS⟩
        | (replace hS := hS.sel [1]
           simp only [selR, nth, del] at hS
           exact ⟨o, A39, d7, q39, trivial, by omega, hF.sub ⟨rfl, rfl, rfl, rfl, rfl, rfl, rfl, rfl, trivial⟩, by simpa [entCells_append, entCells, Ent.cells] using hS⟩)
    · -- cond 1 false
      refine wp_region_lit ?_
      refine s_pu hF rfl rfl rfl (pu_move (hF.ev rfl)) ?_; clear hF; intro a hF
      refine s_rd hF rfl rfl rfl (by exact rd_loadB (i := 0) (vs := [_, _, _]) ag126 (hF.ev rfl) hS rfl rfl) ?_; clear hF; intro a hF
      refine s_news hF rfl rfl rfl (ef_lit1 (cs := [_, _, _]) sl124 ze126 rfl (hF.ev rfl) (by rfl) rfl (by omega) (by omega)) hS ?_; clear hF hS; intro b38 w hS a hF
      (((refine s_append 3 0 hF rfl rfl sl124 el126 (hF.ev rfl) (hF.ev rfl) hS rfl rfl rfl (by ((simp only [List.all_cons, List.all_nil, Value.oneCell', Bool.and_true, Bool.true_and]; assumption))) (by unfold maxLen; omega) (by omega) ?_))); (clear hS hF; intro A39 q39 w hS a hF; (try simp only [upd, del] at hS))
      refine s_pu hF rfl rfl rfl (pu_assign (hF.ev rfl)) ?_; clear hF; intro a hF
      refine s_done ?_
      refine blk_normal ?_
      refine hK6 _ _ ?_; clear hK6
      refine wp_region_lit ?_
      refine s_pu hF rfl rfl rfl ((by exact pu_add64 (hF.ev rfl) (hF.ev rfl) (by omega))) ?_; clear hF; intro a hF
      refine s_pu hF rfl rfl rfl (pu_move (hF.ev rfl)) ?_; clear hF; intro a hF
      refine s_done ?_
      have e1 := filter_take_succ p he
      have e2 := filter_take_succ (fun e => !p e) he
      simp only [hc1] at e1 e2
      simp at e1 e2
      refine ⟨l.length - (i + 1), by omega, i + 1, ?_⟩
      simp only [e1, e2, List.length_append, List.length_cons, List.length_nil, Nat.zero_add, Nat.add_zero]
      replace hS := (hS.drop 1).drop 1
      simp only [del] at hS
      first
        | exact ⟨A29, c7, q29, d8, trivial, by omega, hF.sub ⟨rfl, rfl, rfl, rfl, rfl, rfl, rfl, rfl, trivial⟩, by simpa [entCells_append, delAll, entCells, Ent.cells] using hS⟩
        | (replace hS := hS.sel [1]
           simp only [selR, nth, del] at hS
           exact ⟨o, A39, d7, q39, trivial, by omega, hF.sub ⟨rfl, rfl, rfl, rfl, rfl, rfl, rfl, rfl, trivial⟩, by simpa [entCells_append, entCells, Ent.cells] using hS⟩)
  · -- cond 0 false
    try simp only [decide_eq_true_eq, decide_eq_false_iff_not, Bool.not_eq_true', Bool.not_eq_false', Int.not_lt, Int.not_le, ne_eq, Decidable.not_not, Bool.or_eq_true, Bool.or_eq_false_iff, Bool.and_eq_true, Bool.and_eq_false_imp] at hc0
    refine wp_exit ?_
    refine then_exit ?_
    refine then_exit ?_
    refine blk_exit ?_
    refine hK2 _ _ ?_; clear hK2
    refine wp_seq_k fun K6 hK6 => ?_
    refine wp_region_lit ?_
    refine s_pu hF rfl rfl rfl (pu_move (hF.ev rfl)) ?_; clear hF; intro a hF
    refine s_pu hF rfl rfl rfl ((by exact pu_nil (hF.ev rfl))) ?_; clear hF; intro a hF
    refine s_pu hF rfl rfl rfl ((by exact pu_field fd123_0 (hF.ev rfl))) ?_; clear hF; intro a hF
    refine s_rd hF rfl rfl rfl (by exact rd_load pl120 (hF.ev rfl) (hS.cellL (i := 3) rfl rfl)) ?_; clear hF; intro a hF
    refine s_pu hF rfl rfl rfl (pu_move (hF.ev rfl)) ?_; clear hF; intro a hF
    refine s_pu hF rfl rfl rfl (pu_move (hF.ev rfl)) ?_; clear hF; intro a hF
    refine s_pu hF rfl rfl rfl ((by exact pu_elem sl120 (hF.ev rfl) (hF.ev rfl) (by omega) (by omega))) ?_; clear hF; intro a hF
    (((refine s_store (vs := [_]) (cs' := _) 5 hF rfl (hF.ev rfl) (hF.ev rfl) hS rfl rfl sz124 (by rfl) (by ((simp [Value.cells]; omega))) rfl ?_)))
    clear hS; intro w hS; (try simp only [upd, del] at hS)
    refine s_done ?_
    refine hK6 _ _ ?_; clear hK6
    refine wp_seq_k fun K7 hK7 => ?_
    refine wp_region_lit ?_
    refine s_pu hF rfl rfl rfl (pu_move (hF.ev rfl)) ?_; clear hF; intro a hF
    refine s_pu hF rfl rfl rfl (pu_assign (hF.ev rfl)) ?_; clear hF; intro a hF
    refine s_done ?_
    refine hK7 _ _ ?_; clear hK7
    refine wp_ret ?_
    refine fin1 Try.results49 hF rfl ?_
    have hil : i = l.length := by omega
    subst hil
    rw [List.take_length] at hS
    rw [hlD]
    refine ⟨o, d7, by rw [List.take_length], ?_⟩
    replace hS := hS.drop 2
    simp only [del] at hS
    have e5 : 0 + (k : Int).toNat * 1 = k := by simp
    rw [e5, storeA_one (by omega)] at hS
    replace hS := rows_put (hS.perm (List.perm_middle (l₁ := _ :: _ :: _ :: _ :: (rowsC 126 hs W.slots).eraseIdx k)).symm) hh hll
    have e6 : W.part k p = { slots := W.slots.set k (l.filter fun e => !p e), ticks := delAll W.ticks (l.filter p), now := W.now, last := W.last } := by
      unfold Whl.part
      rw [hlD]
    have hW : Sat w0 w (wheelC 123 124 126 g (W.part k p) :: rowC 126 3 (.slice o (l.filter p).length d7) (l.filter p).length (entCells (l.filter p)) :: F) := by
      rw [wheel_open, e6]
      exact ⟨s, m, hs.set k (.slice c7 (l.filter fun e => !p e).length d8), by simp [hl], by simpa using hS⟩
    exact hW.sel [1]
end Go.Proofs.Ytbfdebddoncfhaa
