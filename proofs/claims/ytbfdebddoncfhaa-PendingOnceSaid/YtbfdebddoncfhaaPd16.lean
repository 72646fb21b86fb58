import Derived.Test.YtbfdebddoncfhaaPd15
/-! Pending: Tick, the walk. -/
namespace Go.Proofs.Ytbfdebddoncfhaa
open Go Go.RowKit Go.Proofs.Ytbfdebddoncfhaa.Sk
set_option linter.unusedVariables false
set_option linter.unusedSimpArgs false
set_option maxRecDepth 100000

theorem tab_bsX {w0 w : World} {R X : List Chunk} {k g : Nat} {T : Tab} (hS : Sat w0 w (X ++ tabC k g T :: R)) : ∃ bs, bs.length = T.L.length ∧ Sat w0 w (X ++ tabB k g T bs :: R) := by
  obtain ⟨bs, h⟩ := tab_bs.1 (hS.perm List.perm_middle)
  obtain ⟨_, _, _, _, _, _, _, _, hb, _⟩ := tab_open h
  exact ⟨bs, hb, h.perm List.perm_middle.symm⟩
def ticked (T : Tab) : Tab := { T with P := T.P.filter fun e => !decide (e.at_ = T.now + 1), now := T.now + 1 }
def tickR (T : Tab) (ds : List Int) : Tab × List Pnd × List Pnd := ds.foldl pass2 ((ds.foldl pass1 (ticked T, [])).1, [], (ds.foldl pass1 (ticked T, [])).2)
theorem rem_le {n : Int} {L : List Ety} : (rem n L).length ≤ L.length := List.length_filter_le _ _
theorem pass1_le {s : Tab × List Pnd} {n : Int} : (pass1 s n).1.L.length ≤ s.1.L.length ∧ (pass1 s n).2.length ≤ s.2.length + 1 := by
  unfold pass1
  split
  · exact ⟨Nat.le_refl _, by omega⟩
  · split
    · exact ⟨rem_le, by simp⟩
    · exact ⟨Nat.le_refl _, by omega⟩
theorem pass2_le {s : Tab × List Pnd × List Pnd} {n : Int} : (pass2 s n).2.1.length ≤ s.2.1.length + 1 ∧ (pass2 s n).2.2.length ≤ s.2.2.length + 1 := by
  unfold pass2
  split
  · exact ⟨by omega, by omega⟩
  · split
    · split <;> simp
    · simp
theorem fold_snoc {α β : Type} {f : β → α → β} {s : β} {l : List α} {i : Nat} {x : α} (h : l[i]? = some x) : (l.take (i + 1)).foldl f s = f ((l.take i).foldl f s) x := by
  rw [List.take_add_one, h]
  simp
theorem perm_end (c : Chunk) (M Z : List Chunk) : (c :: (M ++ Z)).Perm (M ++ c :: Z) := List.perm_middle.symm
section
variable {w0 w : World} {F : List Chunk} {k g : Nat} {T : Tab} {ds : List Int}
set_option maxHeartbeats 400000 in
theorem tick_c (hS : Sat w0 w (tabC k g T :: F)) (hR : Rising T.P T.last) (hn0 : 0 ≤ T.now) (hn1 : T.now + 1 ≤ 4611686018427387904) (hroom : (T.L.length + 1) * 168 ≤ 140737488355328) (hroomP : (T.P.length + 1) * 24 ≤ 140737488355328) (hroomD : (2 * ds.length + 2) * 168 ≤ 140737488355328)
    (hds : (T.P.filter fun e => decide (e.at_ = T.now + 1)).map Ent.v = ints ds) (hr1 : Run1 (ticked T, []) ds) (hr2 : Run2 ((ds.foldl pass1 (ticked T, [])).1, [], (ds.foldl pass1 (ticked T, [])).2) ds) :
    Calls Try.prog 16 #[.pointer (some ⟨g, 0, none⟩)] w fun e w' => ∃ A c A' c', e = .returned (.tuple #[.slice A (tickR T ds).2.1.length c, .slice A' (tickR T ds).2.2.length c']) ∧
      Sat w0 w' (listC k (.slice A (tickR T ds).2.1.length c) (tickR T ds).2.1 :: listC k (.slice A' (tickR T ds).2.2.length c') (tickR T ds).2.2 :: tabC k g (tickR T ds).1 :: F) := by
  obtain ⟨bs, hS⟩ := tab_bs.1 hS
  obtain ⟨wg, km, kk, kw, o, d, o', d', hb, hS⟩ := tab_open hS
  unfold tabO at hS
  simp only [List.cons_append, List.nil_append] at hS
  have hdl : (T.P.filter fun e => decide (e.at_ = T.now + 1)).length = ds.length := by have := congrArg List.length hds; simpa [ints] using this
  refine enter Try.func16 rfl Try.ntmps16 (Nat.le_of_ble_eq_true rfl) fun a hF => ?_
  refine wp_seq_k fun K0 hK0 => ?_
  refine wp_region_lit ?_
  refine s_pu hF rfl rfl rfl (pu_assign (hF.ev rfl)) ?_; clear hF; intro a hF
  refine s_pu hF rfl rfl rfl (pu_assign (hF.ev rfl)) ?_; clear hF; intro a hF
  refine s_done ?_
  refine hK0 _ _ ?_; clear hK0
  refine wp_seq_k fun K1 hK1 => ?_
  refine wp_region_lit ?_
  refine s_pu hF rfl rfl rfl (pu_assign (hF.ev rfl)) ?_; clear hF; intro a hF
  refine s_pu hF rfl rfl rfl (pu_assign (hF.ev rfl)) ?_; clear hF; intro a hF
  refine s_done ?_
  refine hK1 _ _ ?_; clear hK1
  refine wp_seq_k fun K2 hK2 => ?_
  refine wp_region_lit ?_
  refine s_pu hF rfl rfl rfl (pu_move (hF.ev rfl)) ?_; clear hF; intro a hF
  refine s_pu hF rfl rfl rfl ((by exact pu_nil (hF.ev rfl))) ?_; clear hF; intro a hF
  refine s_pu hF rfl rfl rfl ((by exact pu_field fd91_0 (hF.ev rfl))) ?_; clear hF; intro a hF
  refine s_rd hF rfl rfl rfl (by exact rd_load pl84 (hF.ev rfl) (hS.cellL (i := 0) rfl rfl)) ?_; clear hF; intro a hF
  refine s_en hF rfl rfl rfl (run_fn fk36 (hF.ev rfl) (hF.evs rfl)) (at_place 6 hS rfl (fun h => wTick_i h hR (by omega) hn0 hn1 hroomP)) ?_
  clear hS; rintro e w ⟨dA, dc, rfl, hS⟩
  simp only [del] at hS
  rw [hds, hdl] at hS
  rw [hdl]
  refine ⟨_, rfl, ?_⟩; clear hF; intro a hF
  refine s_pu hF rfl rfl rfl (pu_assign (hF.ev rfl)) ?_; clear hF; intro a hF
  refine s_done ?_
  refine hK2 _ _ ?_; clear hK2
  refine wp_seq_k fun K3 hK3 => ?_
  refine wp_seq_k fun K4 hK4 => ?_
  refine wp_region_lit ?_
  refine s_pu hF rfl rfl rfl (pu_move (hF.ev rfl)) ?_; clear hF; intro a hF
  refine s_pu hF rfl rfl rfl (pu_len sl22 (hF.ev rfl)) ?_; clear hF; intro a hF
  refine s_pu hF rfl rfl rfl (pu_move (hF.ev rfl)) ?_; clear hF; intro a hF
  refine s_done ?_
  refine hK4 _ _ ?_; clear hK4
  refine wp_block ?_
  have hS2 := tab_cX (X := [_]) (tab_shutX (X := [_]) (T := ticked T) (k := k) (F := F) (wg := wg) (km := km) (kk := kk) (kw := kw) (hw := .slice o (waitsL T.L).length d) (hl := .slice o' (latesL T.L).length d') hb (hS.sel [0, 1, 1, 1, 1, 1, 1]))
  have hS3 := (row_nil (E := 35) (sz := 12) hS2).sel [1]
  simp only [selR, nth, del, List.cons_append, List.nil_append] at hS3
  clear hS hS2
  refine wp_ind (fun j a w => ∃ (i : Nat) (s : Tab × List Pnd) (gA : Option Addr) (gc : Nat) (hs : List (Value × Value)), j = ds.length - i ∧ i ≤ ds.length ∧ s = (ds.take i).foldl pass1 (ticked T, []) ∧ hs.length = s.2.length ∧ s.2.length ≤ i ∧ Run1 s (ds.drop i) ∧ s.1.L.length ≤ T.L.length ∧
    Fr a 152 [(0, .pointer (some ⟨g, 0, none⟩)), (4, .slice none 0 0), (5, .slice gA s.2.length gc), (6, .slice dA ds.length dc), (19, .slice dA ds.length dc), (20, .int .i64 ds.length), (21, .int .i64 i)] ∧
    Sat w0 w (rowC 3 1 (.slice dA ds.length dc) ds.length (ints ds) :: rowC 35 12 (.slice gA s.2.length gc) s.2.length (pndCells s.2 hs) :: tabC k g s.1 :: (messC k hs s.2 ++ F))) ds.length
    ⟨0, (ticked T, []), none, 0, [], rfl, by omega, rfl, rfl, by simp, hr1, Nat.le_refl _, hF.sub ⟨rfl, rfl, rfl, rfl, rfl, rfl, rfl, trivial⟩, hS3⟩ ?_
  clear hF hS3
  rintro j a w ⟨i, s, gA, gc, hs, rfl, hi, hse, hsl, hsi, hrun, hle, hF, hS⟩
  refine wp_seq_k fun K5 hK5 => ?_
  refine wp_region_lit ?_
  refine s_pu hF rfl rfl rfl (pu_lss (hF.ev rfl) (hF.ev rfl)) ?_; clear hF; intro a hF
  refine s_done ?_
  refine hK5 _ _ ?_; clear hK5
  refine wp_seq_k fun K6 hK6 => ?_
  refine wp_cond_split (hF.ev rfl) (fun hc0 => ?_) (fun hc0 => ?_)
  · -- cond 0 true
    try simp only [decide_eq_true_eq, decide_eq_false_iff_not, Bool.not_eq_true', Bool.not_eq_false', Int.not_lt, Int.not_le, ne_eq, Decidable.not_not, Bool.or_eq_true, Bool.or_eq_false_iff, Bool.and_eq_true, Bool.and_eq_false_imp] at hc0
    have hil : i < ds.length := by omega
    obtain ⟨n, hn⟩ : ∃ n, ds[i]? = some n := ⟨ds[i], List.getElem?_eq_getElem _⟩
    have hng : ds.getD i 0 = n := by rw [List.getD_eq_getElem?_getD, hn]; rfl
    have hdrop : ds.drop i = n :: ds.drop (i + 1) := by
      rw [List.drop_eq_getElem_cons hil]
      rw [List.getElem?_eq_getElem hil] at hn
      injection hn with hn
      rw [hn]
    rw [hdrop] at hrun
    obtain ⟨hfs, hrun'⟩ := hrun
    obtain ⟨e, hfe⟩ := Option.isSome_iff_exists.1 hfs
    obtain ⟨hen, A, B, hL⟩ := findN_some hfe
    obtain ⟨ga, rfl⟩ := row_some (i := 0) hS rfl (by omega)
    have hv := row_at (i := 0) hS rfl (ints_at hil)
    rw [hng] at hv
    have hple := pass1_le (s := s) (n := n)
    refine wp_skip ?_
    refine hK6 _ _ ?_; clear hK6
    refine wp_seq_j (fun a w => ∃ (gA : Option Addr) (gc : Nat) (hs : List (Value × Value)), hs.length = (pass1 s n).2.length ∧
      Fr a 152 [(0, .pointer (some ⟨g, 0, none⟩)), (4, .slice none 0 0), (5, .slice gA (pass1 s n).2.length gc), (6, .slice (some ⟨ga, 0, none⟩) ds.length dc), (19, .slice (some ⟨ga, 0, none⟩) ds.length dc), (20, .int .i64 ds.length), (21, .int .i64 i)] ∧
      Sat w0 w (rowC 3 1 (.slice (some ⟨ga, 0, none⟩) ds.length dc) ds.length (ints ds) :: rowC 35 12 (.slice gA (pass1 s n).2.length gc) (pass1 s n).2.length (pndCells (pass1 s n).2 hs) :: tabC k g (pass1 s n).1 :: (messC k hs (pass1 s n).2 ++ F))) ?_ ?_
    · -- up to the join s7
      refine wp_block ?_
      refine wp_seq_k fun K8 hK8 => ?_
      refine wp_region_lit ?_
      refine s_pu hF rfl rfl rfl ((by exact pu_elem sl22 (hF.ev rfl) (hF.ev rfl) (by omega) (by omega))) ?_; clear hF; intro a hF
      refine s_rd hF rfl rfl rfl (by exact rd_load pl3 (hF.ev rfl) (by assumption)) ?_; clear hF; intro a hF
      refine s_pu hF rfl rfl rfl (pu_assign (hF.ev rfl)) ?_; clear hF; intro a hF
      refine s_done ?_
      refine hK8 _ _ ?_; clear hK8
      refine wp_seq_k fun K9 hK9 => ?_
      refine wp_region_lit ?_
      obtain ⟨bs', hbl, hS⟩ := tab_bsX (X := [_, _]) hS
      obtain ⟨bA, b, bB, rfl, hl⟩ := bs_split (bs := bs') (A := A) (B := B) (e := e) (by rw [hbl, hL])
      obtain ⟨wg', km', kk', kw', o1, d1, o2, d2, B1, m1, q1, B2, m2, q2, hb', hn1', hn2', hn3', hS⟩ := tab_entryX (X := [_, _]) hL hl hS
      have hget : mGet (allL s.1.L (bA ++ b :: bB)) n = some b := by
        rw [hL] at hn1' ⊢
        rw [← hen]
        exact all_get hl hn1'
      have hnn : ((A ++ e :: B).map Ety.n).Nodup := by
        rw [all_keys hbl, hL] at hn1'
        exact hn1'
      unfold tabO at hS
      simp only [List.cons_append, List.nil_append, Ety.obj] at hS
      refine s_pu hF rfl rfl rfl (pu_move (hF.ev rfl)) ?_; clear hF; intro a hF
      refine s_pu hF rfl rfl rfl ((by exact pu_nil (hF.ev rfl))) ?_; clear hF; intro a hF
      refine s_pu hF rfl rfl rfl ((by exact pu_field fd91_5 (hF.ev rfl))) ?_; clear hF; intro a hF
      refine s_rd hF rfl rfl rfl (by exact rd_load pl87 (hF.ev rfl) (hS.cellL (i := 4) rfl rfl)) ?_; clear hF; intro a hF
      refine s_pu hF rfl rfl rfl (pu_move (hF.ev rfl)) ?_; clear hF; intro a hF
      refine s_rd hF rfl rfl rfl (rd_look1_s 5 (int_keys Try.underlying3) Try.underlying87 (by kernel_rfl : zeroO Try.prog 97 = some (.pointer none)) (hF.ev rfl) (hF.ev rfl) hS rfl hget) ?_; clear hF; intro a hF
      refine s_pu hF rfl rfl rfl ((by exact pu_nil (hF.ev rfl))) ?_; clear hF; intro a hF
      refine s_pu hF rfl rfl rfl ((by exact pu_field fd100_2 (hF.ev rfl))) ?_; clear hF; intro a hF
      refine s_rd hF rfl rfl rfl (by exact rd_load pl4 (hF.ev rfl) (hS.cellL (i := 1) rfl rfl)) ?_; clear hF; intro a hF
      refine s_done ?_
      refine hK9 _ _ ?_; clear hK9
      refine wp_cond_split (hF.ev rfl) (fun hc1 => ?_) (fun hc1 => ?_)
      · -- cond 1 true
        replace hS := tab_backX2 (X := [_, _]) (T := s.1) (A := A) (B := B) (e := e) (bA := bA) (bB := bB) (b := b) hL hl hb' hS
        simp only [List.cons_append, List.nil_append] at hS
        have hpass : pass1 s n = ({ s.1 with L := A ++ B }, s.2 ++ [e.p]) := by
          unfold pass1
          rw [hfe]
          simp only
          rw [if_pos hc1, hL, ← hen, rem_split hnn]
        rw [← hen] at hF
        refine wp_region_lit ?_
        refine s_pu hF rfl rfl rfl (pu_move (hF.ev rfl)) ?_; clear hF; intro a hF
        refine s_pu hF rfl rfl rfl (pu_move (hF.ev rfl)) ?_; clear hF; intro a hF
        refine s_pu hF rfl rfl rfl (pu_move (hF.ev rfl)) ?_; clear hF; intro a hF
        refine s_en hF rfl rfl rfl (run_fn fk34 (hF.ev rfl) (hF.evs rfl)) (at_place 2 hS rfl (fun h => drop_c hL hl h (by omega))) ?_
        clear hS; rintro e w ⟨B3, m3, q3, B4, m4, q4, rfl, hS⟩
        simp only [del, Ety.obj] at hS
        replace hS := hS.sel [5]
        simp only [selR, nth, del] at hS
        unfold Pnd.value
        refine ⟨_, rfl, ?_⟩; clear hF; intro a hF
        refine s_news hF rfl rfl rfl (ef_lit1 (cs := [_, _, _, _, _, _, _, _, _, _, _, _]) sl41 ze35 rfl (hF.ev rfl) (by rfl) rfl (by omega) (by omega)) hS ?_; clear hF hS; intro b38 w hS a hF
        (((refine s_append 1 0 hF rfl rfl sl41 el35 (hF.ev rfl) (hF.ev rfl) hS rfl rfl rfl (by rfl) (by unfold maxLen; omega) (by omega) ?_))); (clear hS hF; intro A39 q39 w hS a hF; (try simp only [upd, del] at hS))
        refine s_pu hF rfl rfl rfl (pu_assign (hF.ev rfl)) ?_; clear hF; intro a hF
        refine s_done ?_
        refine blk_normal ?_
        first
          | (have h1 := mes_in (p := e.p) (((hS.drop 1).drop 1).sel [1, 1])
             have h2 := tab_cX (X := [_, _]) (h1.sel [3, 1, 1])
             refine ⟨A39, q39, hs ++ [(.slice B3 m3 q3, .slice B4 m4 q4)], ?_, ?_, ?_⟩
             · rw [hpass]; simp [hsl]
             · rw [hpass, List.length_append]; exact hF.sub ⟨rfl, rfl, rfl, rfl, rfl, rfl, rfl, trivial⟩
             · rw [hpass, List.length_append, pndCells_snoc _ _ hsl, messC_snoc hsl, List.append_assoc]
               exact h2.perm ((((perm_end _ _ _).cons _).cons _).cons _))
          | (have hpass : pass1 s n = s := by
               unfold pass1
               rw [hfe]
               simp only
               rw [if_neg (by rw [hc1]; decide)]
             replace hS := tab_backX2 (X := [_, _]) (T := s.1) (A := A) (B := B) (e := e) (bA := bA) (bB := bB) (b := b) hL hl hb' hS
             refine ⟨gA, gc, hs, ?_, ?_, ?_⟩
             · rw [hpass]; exact hsl
             · rw [hpass]; exact hF.sub ⟨rfl, rfl, rfl, rfl, rfl, rfl, rfl, trivial⟩
             · rw [hpass]; exact tab_cX (X := [_, _]) hS)
      · -- cond 1 false
        refine wp_skip ?_
        refine blk_normal ?_
        first
          | (have h1 := mes_in (p := e.p) (((hS.drop 1).drop 1).sel [1, 1])
             have h2 := tab_cX (X := [_, _]) (h1.sel [3, 1, 1])
             refine ⟨A39, q39, hs ++ [(.slice B3 m3 q3, .slice B4 m4 q4)], ?_, ?_, ?_⟩
             · rw [hpass]; simp [hsl]
             · rw [hpass, List.length_append]; exact hF.sub ⟨rfl, rfl, rfl, rfl, rfl, rfl, rfl, trivial⟩
             · rw [hpass, List.length_append, pndCells_snoc _ _ hsl, messC_snoc hsl, List.append_assoc]
               exact h2.perm ((((perm_end _ _ _).cons _).cons _).cons _))
          | (have hpass : pass1 s n = s := by
               unfold pass1
               rw [hfe]
               simp only
               rw [if_neg (by rw [hc1]; decide)]
             replace hS := tab_backX2 (X := [_, _]) (T := s.1) (A := A) (B := B) (e := e) (bA := bA) (bB := bB) (b := b) hL hl hb' hS
             refine ⟨gA, gc, hs, ?_, ?_, ?_⟩
             · rw [hpass]; exact hsl
             · rw [hpass]; exact hF.sub ⟨rfl, rfl, rfl, rfl, rfl, rfl, rfl, trivial⟩
             · rw [hpass]; exact tab_cX (X := [_, _]) hS)
    · -- behind the join s7
      clear hS hF hsl hs gA gc
      rintro a w ⟨gA, gc, hs, hsl, hF, hS⟩
      refine wp_region_lit ?_
      refine s_pu hF rfl rfl rfl ((by exact pu_add64 (hF.ev rfl) (hF.ev rfl) (by omega))) ?_; clear hF; intro a hF
      refine s_pu hF rfl rfl rfl (pu_move (hF.ev rfl)) ?_; clear hF; intro a hF
      refine s_done ?_
      exact ⟨_, by omega, i + 1, pass1 s n, gA, gc, hs, rfl, by omega, by rw [fold_snoc hn, ← hse], hsl, by omega, hrun', by omega, hF.sub ⟨rfl, rfl, rfl, rfl, rfl, rfl, rfl, trivial⟩, hS⟩
  · -- cond 0 false
    try simp only [decide_eq_true_eq, decide_eq_false_iff_not, Bool.not_eq_true', Bool.not_eq_false', Int.not_lt, Int.not_le, ne_eq, Decidable.not_not, Bool.or_eq_true, Bool.or_eq_false_iff, Bool.and_eq_true, Bool.and_eq_false_imp] at hc0
    have hil : i = ds.length := by omega
    subst hil
    rw [List.take_length] at hse
    rw [← hse] at hr2
    refine wp_exit ?_
    refine then_exit ?_
    refine then_exit ?_
    refine blk_exit ?_
    refine hK3 _ _ ?_; clear hK3
    refine wp_seq_k fun K7 hK7 => ?_
    refine wp_seq_k fun K8 hK8 => ?_
    refine wp_region_lit ?_
    refine s_pu hF rfl rfl rfl (pu_move (hF.ev rfl)) ?_; clear hF; intro a hF
    refine s_pu hF rfl rfl rfl (pu_len sl22 (hF.ev rfl)) ?_; clear hF; intro a hF
    refine s_pu hF rfl rfl rfl (pu_move (hF.ev rfl)) ?_; clear hF; intro a hF
    refine s_done ?_
    refine hK8 _ _ ?_; clear hK8
    refine wp_block ?_
    have hS3 := (row_nil (E := 35) (sz := 12) hS).sel [1, 0, 0]
    simp only [selR, nth, del] at hS3
    have hsl0 : s.2.length ≤ ds.length := hsi
    obtain ⟨s0, hs0⟩ : ∃ s0 : Tab × List Pnd × List Pnd, s0 = (s.1, [], s.2) := ⟨_, rfl⟩
    have hres : tickR T ds = ds.foldl pass2 s0 := by unfold tickR; rw [← hse, hs0]
    rw [← hs0] at hr2
    refine wp_ind (fun j a w => ∃ (i : Nat) (s : Tab × List Pnd × List Pnd) (lA : Option Addr) (lc : Nat) (gA : Option Addr) (gc : Nat) (ls gs : List (Value × Value)), j = ds.length - i ∧ i ≤ ds.length ∧ s = (ds.take i).foldl pass2 s0 ∧ ls.length = s.2.1.length ∧ gs.length = s.2.2.length ∧ s.2.1.length ≤ i ∧ s.2.2.length ≤ ds.length + i ∧ Run2 s (ds.drop i) ∧
      Fr a 152 [(0, .pointer (some ⟨g, 0, none⟩)), (4, .slice lA s.2.1.length lc), (5, .slice gA s.2.2.length gc), (41, .slice dA ds.length dc), (42, .int .i64 ds.length), (43, .int .i64 i)] ∧
      Sat w0 w (rowC 3 1 (.slice dA ds.length dc) ds.length (ints ds) :: rowC 35 12 (.slice lA s.2.1.length lc) s.2.1.length (pndCells s.2.1 ls) :: rowC 35 12 (.slice gA s.2.2.length gc) s.2.2.length (pndCells s.2.2 gs) :: tabC k g s.1 :: (messC k ls s.2.1 ++ (messC k gs s.2.2 ++ F)))) ds.length
      ⟨0, s0, none, 0, gA, gc, [], hs, rfl, by omega, rfl, by rw [hs0]; rfl, by rw [hs0]; exact hsl, by rw [hs0]; exact Nat.le_refl _, by rw [hs0]; exact hsl0, hr2, by rw [hs0]; exact hF.sub ⟨rfl, rfl, rfl, rfl, rfl, rfl, trivial⟩, by rw [hs0]; exact hS3⟩ ?_
    clear hF hS3 hS hse hsl hsi hrun hle hs gA gc hr2 hs0
    rintro j a w ⟨i, ⟨⟨most, timeout, remember, next, L, P, now, last⟩, lt, gn⟩, lA, lc, gA, gc, ls, gs, rfl, hi, hse, hll, hgl, hli, hgi, hrun, hF, hS⟩
    simp only at hll hgl hli hgi hF hS
    refine wp_seq_k fun K9 hK9 => ?_
    refine wp_region_lit ?_
    refine s_pu hF rfl rfl rfl (pu_lss (hF.ev rfl) (hF.ev rfl)) ?_; clear hF; intro a hF
    refine s_done ?_
    refine hK9 _ _ ?_; clear hK9
    refine wp_seq_k fun K10 hK10 => ?_
    refine wp_cond_split (hF.ev rfl) (fun hc2 => ?_) (fun hc2 => ?_)
    · -- cond 2 true
      try simp only [decide_eq_true_eq, decide_eq_false_iff_not, Bool.not_eq_true', Bool.not_eq_false', Int.not_lt, Int.not_le, ne_eq, Decidable.not_not, Bool.or_eq_true, Bool.or_eq_false_iff, Bool.and_eq_true, Bool.and_eq_false_imp] at hc2
      have hil : i < ds.length := by omega
      obtain ⟨n, hn⟩ : ∃ n, ds[i]? = some n := ⟨ds[i], List.getElem?_eq_getElem _⟩
      have hng : ds.getD i 0 = n := by rw [List.getD_eq_getElem?_getD, hn]; rfl
      have hdrop : ds.drop i = n :: ds.drop (i + 1) := by
        rw [List.drop_eq_getElem_cons hil]
        rw [List.getElem?_eq_getElem hil] at hn
        injection hn with hn
        rw [hn]
      rw [hdrop] at hrun
      obtain ⟨hok, hrun'⟩ := hrun
      obtain ⟨ga, rfl⟩ := row_some (i := 0) hS rfl (by omega)
      have hv := row_at (i := 0) hS rfl (ints_at hil)
      rw [hng] at hv
      obtain ⟨s9, hs9⟩ : ∃ s9, s9 = pass2 (⟨most, timeout, remember, next, L, P, now, last⟩, lt, gn) n := ⟨_, rfl⟩
      have hple := pass2_le (s := (⟨most, timeout, remember, next, L, P, now, last⟩, lt, gn)) (n := n)
      rw [← hs9] at hple hrun'
      simp only at hple
      refine wp_skip ?_
      refine hK10 _ _ ?_; clear hK10
      refine wp_seq_j (fun a w => ∃ (lA : Option Addr) (lc : Nat) (gA : Option Addr) (gc : Nat) (ls gs : List (Value × Value)), ls.length = s9.2.1.length ∧ gs.length = s9.2.2.length ∧
        Fr a 152 [(0, .pointer (some ⟨g, 0, none⟩)), (4, .slice lA s9.2.1.length lc), (5, .slice gA s9.2.2.length gc), (41, .slice (some ⟨ga, 0, none⟩) ds.length dc), (42, .int .i64 ds.length), (43, .int .i64 i)] ∧
        Sat w0 w (rowC 3 1 (.slice (some ⟨ga, 0, none⟩) ds.length dc) ds.length (ints ds) :: rowC 35 12 (.slice lA s9.2.1.length lc) s9.2.1.length (pndCells s9.2.1 ls) :: rowC 35 12 (.slice gA s9.2.2.length gc) s9.2.2.length (pndCells s9.2.2 gs) :: tabC k g s9.1 :: (messC k ls s9.2.1 ++ (messC k gs s9.2.2 ++ F)))) ?_ ?_
      · -- up to the join s14
        refine wp_block ?_
        refine wp_seq_k fun K12 hK12 => ?_
        refine wp_region_lit ?_
        refine s_pu hF rfl rfl rfl ((by exact pu_elem sl22 (hF.ev rfl) (hF.ev rfl) (by omega) (by omega))) ?_; clear hF; intro a hF
        refine s_rd hF rfl rfl rfl (by exact rd_load pl3 (hF.ev rfl) (by assumption)) ?_; clear hF; intro a hF
        refine s_pu hF rfl rfl rfl (pu_assign (hF.ev rfl)) ?_; clear hF; intro a hF
        refine s_done ?_
        refine hK12 _ _ ?_; clear hK12
        refine wp_seq_k fun K13 hK13 => ?_
        rcases hfd : findN L n with _ | e
        · -- none
          refine wp_region_lit ?_
          obtain ⟨bs', hbl, hS⟩ := tab_bsX (X := [_, _, _]) hS
          have hget := all_none (bs := bs') hbl (findN_none hfd)
          obtain ⟨wg', km', kk', kw', o1, d1, o2, d2, hb', hS⟩ := tab_openX (X := [_, _, _]) hS
          unfold tabO at hS
          simp only [List.cons_append, List.nil_append] at hS
          refine s_pu hF rfl rfl rfl (pu_move (hF.ev rfl)) ?_; clear hF; intro a hF
          refine s_pu hF rfl rfl rfl ((by exact pu_nil (hF.ev rfl))) ?_; clear hF; intro a hF
          refine s_pu hF rfl rfl rfl ((by exact pu_field fd91_5 (hF.ev rfl))) ?_; clear hF; intro a hF
          refine s_rd hF rfl rfl rfl (by exact rd_load pl87 (hF.ev rfl) (hS.cellL (i := 0) rfl rfl)) ?_; clear hF; intro a hF
          refine s_pu hF rfl rfl rfl (pu_move (hF.ev rfl)) ?_; clear hF; intro a hF
          first
            | (refine s_rd hF rfl rfl rfl (rd_look_n 1 (int_keys Try.underlying3) Try.underlying87 (by kernel_rfl : zeroO Try.prog 97 = some (.pointer none)) (hF.ev rfl) (hF.ev rfl) hS rfl hget) ?_; clear hF; intro a hF)
            | (refine s_rd hF rfl rfl rfl (rd_look_s 8 (int_keys Try.underlying3) Try.underlying87 (by kernel_rfl : zeroO Try.prog 97 = some (.pointer none)) (hF.ev rfl) (hF.ev rfl) hS rfl hget) ?_; clear hF; intro a hF)
          refine s_pu hF rfl rfl rfl (pu_move (hF.ev rfl)) ?_; clear hF; intro a hF
          refine s_pu hF rfl rfl rfl (pu_extract (hF.ev rfl) rfl) ?_; clear hF; intro a hF
          refine s_pu hF rfl rfl rfl (pu_extract (hF.ev rfl) rfl) ?_; clear hF; intro a hF
          refine s_pu hF rfl rfl rfl (pu_assign (hF.ev rfl)) ?_; clear hF; intro a hF
          refine s_pu hF rfl rfl rfl (pu_assign (hF.ev rfl)) ?_; clear hF; intro a hF
          refine s_done ?_
          refine hK13 _ _ ?_; clear hK13
          refine wp_seq_k fun K14 hK14 => ?_
          refine wp_seq_k fun K15 hK15 => ?_
          refine wp_region_lit ?_
          refine s_pu hF rfl rfl rfl (pu_move (hF.ev rfl)) ?_; clear hF; intro a hF
          refine s_pu hF rfl rfl rfl (pu_not (hF.ev rfl)) ?_; clear hF; intro a hF
          refine s_done ?_
          refine hK15 _ _ ?_; clear hK15
          refine wp_cond_true (hF.ev rfl) ?_
          refine wp_exit ?_
          refine then_exit ?_
          refine blk_exit ?_
          have h1 := (tab_shut (T := ⟨most, timeout, remember, next, L, P, now, last⟩) (k := k) (wg := wg') (km := km') (kk := kk') (kw := kw') (hw := .slice o1 (waitsL L).length d1) (hl := .slice o2 (latesL L).length d2) hb' hS).sel [1, 1, 1]
          simp only [selR, nth, del] at h1
          have hpass : s9 = (⟨most, timeout, remember, next, L, P, now, last⟩, lt, gn) := by rw [hs9]; unfold pass2; rw [hfd]
          rw [hpass]
          exact ⟨lA, lc, gA, gc, ls, gs, hll, hgl, hF.sub ⟨rfl, rfl, rfl, rfl, rfl, rfl, trivial⟩, tab_cX (X := [_, _, _]) h1⟩
        · -- some
          refine wp_region_lit ?_
          obtain ⟨bs', hbl, hS⟩ := tab_bsX (X := [_, _, _]) hS
          simp only at hbl
          obtain ⟨hen, A, B, hL⟩ := findN_some hfd
          subst hL
          subst hen
          have hP := hok e hfd
          have hlate := hP.late
          have hB := hP.behind A B rfl
          obtain ⟨bA, b, bB, rfl, hl⟩ := bs_split (bs := bs') (A := A) (B := B) (e := e) hbl
          obtain ⟨wg', km', kk', kw', o1, d1, o2, d2, B1, m1, q1, B2, m2, q2, hb', hn1', hn2', hn3', hS⟩ := tab_entryX (X := [_, _, _]) (A := A) (B := B) (e := e) rfl hl hS
          simp only at hn1' hn2' hn3' hS
          have hget : mGet (allL (A ++ e :: B) (bA ++ b :: bB)) e.n = some b := by
            exact all_get hl hn1'
          have hnn : ((A ++ e :: B).map Ety.n).Nodup := by
            rw [all_keys hbl] at hn1'
            exact hn1'
          have hr0 := hP.r0; have hr1' := hP.r1; have hno := hP.n0; have hno1 := hP.n1; have hla := hP.l0; have hla1 := hP.l1; have hro := hP.room; have hrop := hP.roomP; have hri := hP.rising; have hold := hP.old
          simp only at hr0 hr1' hno hno1 hla hla1 hro hrop hri hold
          have hwl := waits_le (L := A ++ e :: B)
          have hlal := lates_le (L := A ++ e :: B)
          have hmk : marked ⟨most, timeout, remember, next, A ++ e :: B, P, now, last⟩ e.n = ⟨most, timeout, remember, next, A ++ ⟨e.n, e.p, last + 1, true⟩ :: B, P ++ [⟨last + 1, now + remember, .int .i64 e.n, rfl⟩], now, last + 1⟩ := by
            unfold marked
            simp only
            rw [mark_split hnn]
          replace hS := hS.sel [5, 1, 0, 1, 5, 5, 5, 3, 2]
          unfold tabO at hS
          simp only [List.cons_append, List.nil_append, Ety.obj, selR, nth, del] at hS
          refine s_pu hF rfl rfl rfl (pu_move (hF.ev rfl)) ?_; clear hF; intro a hF
          refine s_pu hF rfl rfl rfl ((by exact pu_nil (hF.ev rfl))) ?_; clear hF; intro a hF
          refine s_pu hF rfl rfl rfl ((by exact pu_field fd91_5 (hF.ev rfl))) ?_; clear hF; intro a hF
          refine s_rd hF rfl rfl rfl (by exact rd_load pl87 (hF.ev rfl) (hS.cellL (i := 0) rfl rfl)) ?_; clear hF; intro a hF
          refine s_pu hF rfl rfl rfl (pu_move (hF.ev rfl)) ?_; clear hF; intro a hF
          first
            | (refine s_rd hF rfl rfl rfl (rd_look_n 1 (int_keys Try.underlying3) Try.underlying87 (by kernel_rfl : zeroO Try.prog 97 = some (.pointer none)) (hF.ev rfl) (hF.ev rfl) hS rfl hget) ?_; clear hF; intro a hF)
            | (refine s_rd hF rfl rfl rfl (rd_look_s 8 (int_keys Try.underlying3) Try.underlying87 (by kernel_rfl : zeroO Try.prog 97 = some (.pointer none)) (hF.ev rfl) (hF.ev rfl) hS rfl hget) ?_; clear hF; intro a hF)
          refine s_pu hF rfl rfl rfl (pu_move (hF.ev rfl)) ?_; clear hF; intro a hF
          refine s_pu hF rfl rfl rfl (pu_extract (hF.ev rfl) rfl) ?_; clear hF; intro a hF
          refine s_pu hF rfl rfl rfl (pu_extract (hF.ev rfl) rfl) ?_; clear hF; intro a hF
          refine s_pu hF rfl rfl rfl (pu_assign (hF.ev rfl)) ?_; clear hF; intro a hF
          refine s_pu hF rfl rfl rfl (pu_assign (hF.ev rfl)) ?_; clear hF; intro a hF
          refine s_done ?_
          refine hK13 _ _ ?_; clear hK13
          refine wp_seq_k fun K14 hK14 => ?_
          refine wp_seq_k fun K15 hK15 => ?_
          refine wp_region_lit ?_
          refine s_pu hF rfl rfl rfl (pu_move (hF.ev rfl)) ?_; clear hF; intro a hF
          refine s_pu hF rfl rfl rfl (pu_not (hF.ev rfl)) ?_; clear hF; intro a hF
          refine s_done ?_
          refine hK15 _ _ ?_; clear hK15
          refine wp_cond_false (hF.ev rfl) ?_
          refine wp_skip ?_
          refine hK14 _ _ ?_; clear hK14
          refine wp_seq_k fun K16 hK16 => ?_
          refine d_start (S := (fun w => Sat w0 w _)) (ds := [9]) (ord := [(0, .pu), (1, .pu), (2, .pu), (3, .tk), (4, .pu), (5, .pu), (6, .pu), (7, .pu), (8, .tk), (9, .ls)]) mixed ⟨by kernel_rfl, fun _ d _ _ _ h => by cases d <;> exact h⟩ hS.drew fun hD => ?_
          replace hS := hS.drew; generalize w.drew = w at hS ⊢
          refine d_pu hD hF rfl rfl rfl rfl rfl (pu_move (hF.ev rfl)) ?_; clear hF; intro a hF
          refine d_pu hD hF rfl rfl rfl rfl rfl ((by exact pu_nil (hF.ev rfl))) ?_; clear hF; intro a hF
          refine d_pu hD hF rfl rfl rfl rfl rfl ((by exact pu_field fd91_6 (hF.ev rfl))) ?_; clear hF; intro a hF
          refine d_rd hD hF rfl rfl rfl rfl rfl hS (fun w hS => (by exact rd_load pl88 (hF.ev rfl) (hS.cellL (i := 0) rfl rfl))) ?_; clear hF; intro a hF
          refine d_pu hD hF rfl rfl rfl rfl rfl (pu_move (hF.ev rfl)) ?_; clear hF; intro a hF
          refine d_pu hD hF rfl rfl rfl rfl rfl ((by exact pu_nil (hF.ev rfl))) ?_; clear hF; intro a hF
          refine d_pu hD hF rfl rfl rfl rfl rfl ((by exact pu_field fd100_0 (hF.ev rfl))) ?_; clear hF; intro a hF
          refine d_pu hD hF rfl rfl rfl rfl rfl ((by exact pu_field fd35_0 (hF.ev rfl))) ?_; clear hF; intro a hF
          refine d_rd hD hF rfl rfl rfl rfl rfl hS (fun w hS => (by exact rd_loadB (i := 1) (vs := [_, _, _, _, _]) ag30 (hF.ev rfl) hS rfl rfl)) ?_; clear hF; intro a hF
          refine l_del (x := e.p.key) 7 hD hF rfl rfl rfl keys30 Try.underlying88 (hF.ev rfl) (hF.ev rfl) hS rfl ?_
          clear hS; intro w hS; (try simp only [upd, del] at hS)
          rw [keys_drop hn2' hlate] at hS
          refine d_done hD rfl ?_; clear hD
          refine hK16 _ _ ?_; clear hK16
          refine wp_seq_k fun K17 hK17 => ?_
          refine wp_region_lit ?_
          refine s_pu hF rfl rfl rfl (pu_move (hF.ev rfl)) ?_; clear hF; intro a hF
          refine s_pu hF rfl rfl rfl (pu_move (hF.ev rfl)) ?_; clear hF; intro a hF
          refine s_pu hF rfl rfl rfl ((by exact pu_nil (hF.ev rfl))) ?_; clear hF; intro a hF
          refine s_pu hF rfl rfl rfl ((by exact pu_field fd91_8 (hF.ev rfl))) ?_; clear hF; intro a hF
          refine s_rd hF rfl rfl rfl (by exact rd_load pl22 (hF.ev rfl) (hS.cellL (i := 0) rfl rfl)) ?_; clear hF; intro a hF
          refine s_pu hF rfl rfl rfl (pu_move (hF.ev rfl)) ?_; clear hF; intro a hF
          refine s_en hF rfl rfl rfl (run_fn fk37 (hF.ev rfl) (hF.evs rfl)) (at_place 4 hS rfl (fun h => without_c h (by omega))) ?_
          clear hS; rintro e w ⟨A73, c73, rfl, hS⟩
          simp only [del] at hS
          refine ⟨_, rfl, ?_⟩; clear hF; intro a hF
          refine s_pu hF rfl rfl rfl ((by exact pu_nil (hF.ev rfl))) ?_; clear hF; intro a hF
          refine s_pu hF rfl rfl rfl ((by exact pu_field fd91_8 (hF.ev rfl))) ?_; clear hF; intro a hF
          ((refine s_store (vs := [_]) (cs' := #[_, _, _, _, _, _, _, _, _, _]) 1 hF rfl (hF.ev rfl) (hF.ev rfl) hS rfl rfl sz22 (by rfl) (by exact Nat.le_of_ble_eq_true rfl) rfl ?_))
          clear hS; intro w hS; (try simp only [upd, del] at hS)
          refine s_done ?_
          refine hK17 _ _ ?_; clear hK17
          refine wp_seq_k fun K18 hK18 => ?_
          refine wp_region_lit ?_
          refine s_pu hF rfl rfl rfl (pu_move (hF.ev rfl)) ?_; clear hF; intro a hF
          refine s_pu hF rfl rfl rfl ((by exact pu_nil (hF.ev rfl))) ?_; clear hF; intro a hF
          refine s_pu hF rfl rfl rfl ((by exact pu_field fd100_2 (hF.ev rfl))) ?_; clear hF; intro a hF
          ((refine s_store (vs := [_]) (cs' := #[_, _, _, _, _, _, _, _, _, _, _, _, _, _]) 2 hF rfl (hF.ev rfl) (hF.ev rfl) hS rfl rfl sz4 (by rfl) (by exact Nat.le_of_ble_eq_true rfl) rfl ?_))
          clear hS; intro w hS; (try simp only [upd, del] at hS)
          refine s_done ?_
          refine hK18 _ _ ?_; clear hK18
          refine wp_seq_k fun K19 hK19 => ?_
          replace hS := hS.sel [1]
          simp only [selR, nth, del] at hS
          refine d_start (S := (fun w => Sat w0 w [_])) (ds := [16]) (ord := [(0, .pu), (1, .pu), (2, .pu), (3, .pu), (4, .tk), (5, .pu), (6, .pu), (7, .pu), (8, .tk), (9, .pu), (10, .on), (11, .pu), (12, .pu), (13, .pu), (14, .pu), (15, .pu), (16, .ls)]) mixed ⟨by kernel_rfl, fun _ d _ _ _ h => by cases d <;> exact h⟩ (hS.left (C := [_])).drew fun hD => ?_
          replace hS := hS.drew; generalize w.drew = w at hS ⊢
          refine d_pu hD hF rfl rfl rfl rfl rfl (pu_move (hF.ev rfl)) ?_; clear hF; intro a hF
          refine d_pu hD hF rfl rfl rfl rfl rfl (pu_move (hF.ev rfl)) ?_; clear hF; intro a hF
          refine d_pu hD hF rfl rfl rfl rfl rfl ((by exact pu_nil (hF.ev rfl))) ?_; clear hF; intro a hF
          refine d_pu hD hF rfl rfl rfl rfl rfl ((by exact pu_field fd91_0 (hF.ev rfl))) ?_; clear hF; intro a hF
          refine d_rd hD hF rfl rfl rfl rfl rfl (hS.left (C := [_])) (fun w hS => (by exact rd_load pl84 (hF.ev rfl) (hS.cellL (i := 0) rfl rfl))) ?_; clear hF; intro a hF
          refine d_pu hD hF rfl rfl rfl rfl rfl (pu_move (hF.ev rfl)) ?_; clear hF; intro a hF
          refine d_pu hD hF rfl rfl rfl rfl rfl ((by exact pu_nil (hF.ev rfl))) ?_; clear hF; intro a hF
          refine d_pu hD hF rfl rfl rfl rfl rfl ((by exact pu_field fd91_3 (hF.ev rfl))) ?_; clear hF; intro a hF
          refine d_rd hD hF rfl rfl rfl rfl rfl (hS.left (C := [_])) (fun w hS => (by exact rd_load pl3 (hF.ev rfl) (hS.cellL (i := 0) rfl rfl))) ?_; clear hF; intro a hF
          refine d_pu hD hF rfl rfl rfl rfl rfl (pu_move (hF.ev rfl)) ?_; clear hF; intro a hF
          refine d_en hD hF rfl rfl rfl rfl rfl (run_fn fk31 (hF.ev rfl) (hF.evs rfl)) (at_place 6 hS rfl (fun h => wAdd_i (x := e.n) h hri (by omega) (by omega) hr0 hr1' hno hno1 hla hla1 (by omega))) ?_
          clear hS; rintro e w ⟨rfl, hS⟩
          simp only [del] at hS
          refine ⟨_, rfl, hS.tail.left (C := [_]), ?_⟩; clear hF; intro a hF
          refine d_pu hD hF rfl rfl rfl rfl rfl (pu_move (hF.ev rfl)) ?_; clear hF; intro a hF
          refine d_pu hD hF rfl rfl rfl rfl rfl (pu_extract (hF.ev rfl) rfl) ?_; clear hF; intro a hF
          refine d_pu hD hF rfl rfl rfl rfl rfl (pu_extract (hF.ev rfl) rfl) ?_; clear hF; intro a hF
          refine d_pu hD hF rfl rfl rfl rfl rfl ((by exact pu_nil (hF.ev rfl))) ?_; clear hF; intro a hF
          refine d_pu hD hF rfl rfl rfl rfl rfl ((by exact pu_field fd100_1 (hF.ev rfl))) ?_; clear hF; intro a hF
          ((refine l_store (vs := [_]) (cs' := #[_, _, _, _, _, _, _, _, _, _, _, _, _, _]) 3 hD hF rfl rfl rfl (hF.ev rfl) (hF.ev rfl) hS rfl rfl sz3 (by rfl) (by exact Nat.le_of_ble_eq_true rfl) rfl ?_))
          clear hS; intro w hS; (try simp only [upd, del] at hS)
          refine d_done hD rfl ?_; clear hD
          refine hK19 _ _ ?_; clear hK19
          refine wp_seq_k fun K20 hK20 => ?_
          refine wp_region_lit ?_
          refine s_pu hF rfl rfl rfl (pu_move (hF.ev rfl)) ?_; clear hF; intro a hF
          refine s_pu hF rfl rfl rfl (pu_move (hF.ev rfl)) ?_; clear hF; intro a hF
          refine s_pu hF rfl rfl rfl ((by exact pu_nil (hF.ev rfl))) ?_; clear hF; intro a hF
          refine s_pu hF rfl rfl rfl ((by exact pu_field fd91_9 (hF.ev rfl))) ?_; clear hF; intro a hF
          refine s_rd hF rfl rfl rfl (by exact rd_load pl22 (hF.ev rfl) (hS.cellL (i := 1) rfl rfl)) ?_; clear hF; intro a hF
          refine s_pu hF rfl rfl rfl (pu_move (hF.ev rfl)) ?_; clear hF; intro a hF
          refine s_news hF rfl rfl rfl (ef_lit1 (cs := [_]) sl22 ze3 rfl (hF.ev rfl) (by rfl) rfl (by omega) (by omega)) hS ?_; clear hF hS; intro b101 w hS a hF
          refine s_append 7 0 hF rfl rfl sl22 el3 (hF.ev rfl) (hF.ev rfl) hS rfl rfl rfl (by rfl) (by unfold maxLen; omega) (by omega) ?_
          clear hS hF; intro A102 q102 w hS a hF; (try simp only [upd, del] at hS)
          refine s_pu hF rfl rfl rfl ((by exact pu_nil (hF.ev rfl))) ?_; clear hF; intro a hF
          refine s_pu hF rfl rfl rfl ((by exact pu_field fd91_9 (hF.ev rfl))) ?_; clear hF; intro a hF
          ((refine s_store (vs := [_]) (cs' := #[_, _, _, _, _, _, _, _, _, _]) 3 hF rfl (hF.ev rfl) (hF.ev rfl) hS rfl rfl sz22 (by rfl) (by exact Nat.le_of_ble_eq_true rfl) rfl ?_))
          clear hS; intro w hS; (try simp only [upd, del] at hS)
          refine s_done ?_
          replace hS := (hS.drop 1).sel [6, 5, 4, 2]
          simp only [selR, nth, del] at hS
          refine hK20 _ _ ?_; clear hK20
          refine wp_seq_k fun K21 hK21 => ?_
          refine wp_region_lit ?_
          refine s_pu hF rfl rfl rfl (pu_move (hF.ev rfl)) ?_; clear hF; intro a hF
          refine s_pu hF rfl rfl rfl (pu_move (hF.ev rfl)) ?_; clear hF; intro a hF
          refine s_pu hF rfl rfl rfl ((by exact pu_nil (hF.ev rfl))) ?_; clear hF; intro a hF
          refine s_pu hF rfl rfl rfl ((by exact pu_field fd100_0 (hF.ev rfl))) ?_; clear hF; intro a hF
          refine s_rd hF rfl rfl rfl (by exact rd_loadB (i := 2) (vs := [_, _, _, _, _, _, _, _, _, _, _, _]) ag35 (hF.ev rfl) hS rfl rfl) ?_; clear hF; intro a hF
          refine s_en hF rfl rfl rfl (run_fn fk32 (hF.ev rfl) (hF.evs rfl)) (copied_at k 1 (p := (.slice B1 m1 q1, .slice B2 m2 q2)) hS rfl) ?_
          clear hS; rintro e w ⟨p', rfl, ⟨D1, m3, q3, D2, m4, q4, rfl⟩, hS⟩
          unfold Pnd.value
          refine ⟨_, rfl, ?_⟩; clear hF; intro a hF
          refine s_news hF rfl rfl rfl (ef_lit1 (cs := [_, _, _, _, _, _, _, _, _, _, _, _]) sl41 ze35 rfl (hF.ev rfl) (by rfl) rfl (by omega) (by omega)) hS ?_; clear hF hS; intro b111 w hS a hF
          (((refine s_append 2 0 hF rfl rfl sl41 el35 (hF.ev rfl) (hF.ev rfl) hS rfl rfl rfl (by rfl) (by unfold maxLen; omega) (by omega) ?_))); (clear hS hF; intro A112 q112 w hS a hF; (try simp only [upd, del] at hS))
          refine s_pu hF rfl rfl rfl (pu_assign (hF.ev rfl)) ?_; clear hF; intro a hF
          refine s_done ?_
          replace hS := hS.drop 1
          simp only [del] at hS
          refine hK21 _ _ ?_; clear hK21
          refine wp_seq_k fun K22 hK22 => ?_
          refine d_start (S := (fun w => Sat w0 w _)) (ds := []) (ord := [(0, .pu), (1, .pu), (2, .pu), (3, .tk), (4, .pu), (5, .pu), (6, .pu), (7, .pu), (8, .tk), (9, .pu)]) mixed ⟨by kernel_rfl, fun _ d _ _ _ h => by cases d <;> exact h⟩ hS.drew fun hD => ?_
          replace hS := hS.drew; generalize w.drew = w at hS ⊢
          refine d_pu hD hF rfl rfl rfl rfl rfl (pu_move (hF.ev rfl)) ?_; clear hF; intro a hF
          refine d_pu hD hF rfl rfl rfl rfl rfl ((by exact pu_nil (hF.ev rfl))) ?_; clear hF; intro a hF
          refine d_pu hD hF rfl rfl rfl rfl rfl ((by exact pu_field fd91_9 (hF.ev rfl))) ?_; clear hF; intro a hF
          refine d_rd hD hF rfl rfl rfl rfl rfl hS (fun w hS => (by exact rd_load pl22 (hF.ev rfl) (hS.cellL (i := 4) rfl rfl))) ?_; clear hF; intro a hF
          refine d_pu hD hF rfl rfl rfl rfl rfl (pu_len sl22 (hF.ev rfl)) ?_; clear hF; intro a hF
          refine d_pu hD hF rfl rfl rfl rfl rfl (pu_move (hF.ev rfl)) ?_; clear hF; intro a hF
          refine d_pu hD hF rfl rfl rfl rfl rfl ((by exact pu_nil (hF.ev rfl))) ?_; clear hF; intro a hF
          refine d_pu hD hF rfl rfl rfl rfl rfl ((by exact pu_field fd91_1 (hF.ev rfl))) ?_; clear hF; intro a hF
          refine d_rd hD hF rfl rfl rfl rfl rfl hS (fun w hS => (by exact rd_load pl3 (hF.ev rfl) (hS.cellL (i := 4) rfl rfl))) ?_; clear hF; intro a hF
          refine d_pu hD hF rfl rfl rfl rfl rfl (pu_gtr (hF.ev rfl) (hF.ev rfl)) ?_; clear hF; intro a hF
          refine d_done hD rfl ?_; clear hD
          have hll2 : (latesL (A ++ e :: B)).length + 1 = (latesL (A ++ ⟨e.n, e.p, last + 1, true⟩ :: B)).length := by rw [lates_mark hlate hB]; simp
          rw [waits_drop hnn hlate] at hS
          rw [← waits_mark (e := e) (t := last + 1), ← keys_mark (e := e) (t := last + 1), ← all_mark (t := last + 1) hl, ← ways_mark (t := last + 1), ints_snoc, ← lates_mark (t := last + 1) hlate hB, hll2] at hS
          replace hS := hS.sel [2, 2, 8, 0, 7, 0, 0, 4, 3, 3, 2]
          simp only [selR, nth, del] at hS
          obtain ⟨T1, hT1⟩ : ∃ T1 : Tab, T1 = ⟨most, timeout, remember, next, A ++ ⟨e.n, e.p, last + 1, true⟩ :: B, P ++ [⟨last + 1, now + remember, .int .i64 e.n, rfl⟩], now, last + 1⟩ := ⟨_, rfl⟩
          obtain ⟨e', he'⟩ : ∃ e' : Ety, e' = ⟨e.n, e.p, last + 1, true⟩ := ⟨_, rfl⟩
          have hLT : T1.L = A ++ e' :: B := by rw [hT1, he']
          have hT0 : tabO g T1 (bA ++ b :: bB) wg' km' kk' kw' (.slice A73 (waitsL T1.L).length c73) (.slice A102 (latesL T1.L).length q102) =
            [.obj g (.cells #[.pointer (some ⟨wg', 0, none⟩), .int .i64 most, .int .i64 timeout, .int .i64 remember, .int .i64 next, .map (some km'), .map (some kk'), .map (some kw'), .slice A73 (waitsL (A ++ ⟨e.n, e.p, last + 1, true⟩ :: B)).length c73, .slice A102 (latesL (A ++ ⟨e.n, e.p, last + 1, true⟩ :: B)).length q102] 91 (0, 0)),
             mapC (Value.int .i64) ptrV km' (allL (A ++ ⟨e.n, e.p, last + 1, true⟩ :: B) (bA ++ b :: bB)), mapC PKey.val (Value.int .i64) kk' (keysL (A ++ ⟨e.n, e.p, last + 1, true⟩ :: B)), mapC wayV (Value.int .i64) kw' (waysL (A ++ ⟨e.n, e.p, last + 1, true⟩ :: B)),
             rowC 3 1 (.slice A73 (waitsL (A ++ ⟨e.n, e.p, last + 1, true⟩ :: B)).length c73) (waitsL (A ++ ⟨e.n, e.p, last + 1, true⟩ :: B)).length (ints (waitsL (A ++ ⟨e.n, e.p, last + 1, true⟩ :: B))), rowC 3 1 (.slice A102 (latesL (A ++ ⟨e.n, e.p, last + 1, true⟩ :: B)).length q102) (latesL (A ++ ⟨e.n, e.p, last + 1, true⟩ :: B)).length (ints (latesL (A ++ ⟨e.n, e.p, last + 1, true⟩ :: B))), whC_i wg' 256 (P ++ [⟨last + 1, now + remember, .int .i64 e.n, rfl⟩]) now (last + 1)] := by rw [hT1]; rfl
          have hE0 : e'.obj (.slice B1 m1 q1, .slice B2 m2 q2) = .cells #[.int .i64 e.p.key.link, .int .i64 e.p.key.cls, .string e.p.key.num, .string e.p.key.stamp, .string e.p.key.term, .int .i64 e.p.frm, .int .i64 e.p.to_, .int .i64 e.p.number, .string e.p.m1, .slice B1 m1 q1, .string e.p.m2, .slice B2 m2 q2, .int .i64 (last + 1), .bool true] 100 (0, 0) := by rw [he']; rfl
          have hp0 : e'.p = e.p := by rw [he']
          replace hS : Sat w0 w (mesC k (.slice B1 m1 q1, .slice B2 m2 q2) e'.p :: .obj b (e'.obj (.slice B1 m1 q1, .slice B2 m2 q2)) :: ([rowC 3 1 (.slice (some ⟨ga, 0, none⟩) ds.length dc) ds.length (ints ds), rowC 35 12 (.slice A112 (lt.length + 1) q112) (lt.length + 1) (pndCells lt ls ++ e.p.cells (.slice D1 m3 q3, .slice D2 m4 q4)), rowC 35 12 (.slice gA gn.length gc) gn.length (pndCells gn gs), mesC k (.slice D1 m3 q3, .slice D2 m4 q4) e.p] ++ (tabO g T1 (bA ++ b :: bB) wg' km' kk' kw' (.slice A73 (waitsL T1.L).length c73) (.slice A102 (latesL T1.L).length q102) ++ (entsC k (bA ++ bB) (A ++ B) ++ (messC k ls lt ++ (messC k gs gn ++ F)))))) := by
            rw [hT0, hE0, hp0]
            exact hS
          replace hS := tab_backX2 hLT hl hb' hS
          simp only [List.cons_append, List.nil_append] at hS
          have hppl : (lt ++ [e.p]).length = lt.length + 1 := by simp
          have hbb : (bA ++ b :: bB).length = T1.L.length := by rw [hLT]; simp [hl, hb']
          have hlT : (latesL (A ++ e :: B)).length + 1 = (latesL T1.L).length := by rw [hll2, hT1]
          have hmost : T1.most = most := by rw [hT1]
          have hlast : T1.last = last + 1 := by rw [hT1]
          have hP1 : T1.P = P ++ [⟨last + 1, now + remember, .int .i64 e.n, rfl⟩] := by rw [hT1]
          have hroom1 : T1.L.length ≤ 140737488355328 := by rw [hLT]; simp at hro ⊢; omega
          rw [← hT1] at hmk
          refine hK22 _ _ ?_; clear hK22
          refine wp_cond_split (hF.ev rfl) (fun hc4 => ?_) (fun hc4 => ?_)
          · -- cond 4 true
            try simp only [decide_eq_true_eq, decide_eq_false_iff_not, Bool.not_eq_true', Bool.not_eq_false', Int.not_lt, Int.not_le, ne_eq, Decidable.not_not, Bool.or_eq_true, Bool.or_eq_false_iff, Bool.and_eq_true, Bool.and_eq_false_imp] at hc4
            refine wp_seq_k fun K23 hK23 => ?_
            refine wp_region_lit ?_
            obtain ⟨x, r, hxr⟩ : ∃ x r, latesL T1.L = x :: r := by
              cases h : latesL T1.L with
              | nil => rw [h] at hlT; simp at hlT
              | cons x r => exact ⟨x, r, rfl⟩
            obtain ⟨o9, ho9, hox, hol⟩ := firstLate_head hxr
            have hom := List.mem_of_find?_eq_some ho9
            obtain ⟨A0, B0, hL0⟩ := List.append_of_mem hom
            obtain ⟨bA0, b0, bB0, hbs0, hl0⟩ := bs_split (bs := bA ++ b :: bB) (A := A0) (B := B0) (e := o9) (by rw [← hL0]; exact hbb)
            rw [hbs0] at hS
            obtain ⟨wg2, km2, kk2, kw2, o3, d3, o4, d4, O1, y1, z1, O2, y2, z2, hb0, hn4, hn5, hn6, hS⟩ := tab_entryX (X := [_, _, _, _]) hL0 hl0 hS
            have hget0 : mGet (allL T1.L (bA0 ++ b0 :: bB0)) o9.n = some b0 := by
              rw [hL0] at hn4 ⊢
              exact all_get hl0 hn4
            have hnn0 : ((A0 ++ o9 :: B0).map Ety.n).Nodup := by
              rw [hL0, all_keys (by simp [hl0, hb0])] at hn4
              exact hn4
            have hri1 : Rising T1.P T1.last := by rw [hP1, hlast]; exact hri.add hla _ _ _
            obtain ⟨en0, hen0, ht0, h00⟩ : ∃ en ∈ T1.P, en.timer = o9.timer ∧ 0 ≤ en.at_ := by
              rw [hP1]
              rw [hLT] at hom
              rcases List.mem_append.1 hom with h | h
              · obtain ⟨en, h1, h2, h3⟩ := hold o9 (List.mem_append.2 (.inl h)) hol
                exact ⟨en, List.mem_append.2 (.inl h1), h2, h3⟩
              · rcases List.mem_cons.1 h with h | h
                · rw [h, he']
                  exact ⟨_, List.mem_append.2 (.inr (List.mem_singleton.2 rfl)), rfl, by show 0 ≤ now + remember; omega⟩
                · obtain ⟨en, h1, h2, h3⟩ := hold o9 (List.mem_append.2 (.inr (List.mem_cons.2 (.inr h)))) hol
                  exact ⟨en, List.mem_append.2 (.inl h1), h2, h3⟩
            have hpl1 : (T1.P.length + 1) * 24 ≤ 140737488355328 := by rw [hP1, List.length_append]; simp only [List.length_cons, List.length_nil]; omega
            replace hS := hS.sel [6, 10, 6, 1, 8]
            unfold tabO at hS
            simp only [List.cons_append, List.nil_append, Ety.obj, selR, nth, del] at hS
            have hpos : 0 < (latesL T1.L).length := by omega
            obtain ⟨gl, rfl⟩ := row_some (i := 1) hS rfl hpos
            have hv0 := row_at0 (i := 1) (v := .int .i64 o9.n) hS rfl (by rw [hxr, hox]; rfl)
            refine s_pu hF rfl rfl rfl (pu_move (hF.ev rfl)) ?_; clear hF; intro a hF
            refine s_pu hF rfl rfl rfl ((by exact pu_nil (hF.ev rfl))) ?_; clear hF; intro a hF
            refine s_pu hF rfl rfl rfl ((by exact pu_field fd91_9 (hF.ev rfl))) ?_; clear hF; intro a hF
            refine s_rd hF rfl rfl rfl (by exact rd_load pl22 (hF.ev rfl) (hS.cellL (i := 0) rfl rfl)) ?_; clear hF; intro a hF
            refine s_pu hF rfl rfl rfl ((by exact pu_elem sl22 (hF.ev rfl) (hF.ev rfl) (by omega) (by omega))) ?_; clear hF; intro a hF
            refine s_rd hF rfl rfl rfl (by exact rd_load pl3 (hF.ev rfl) (by assumption)) ?_; clear hF; intro a hF
            refine s_pu hF rfl rfl rfl (pu_assign (hF.ev rfl)) ?_; clear hF; intro a hF
            refine s_done ?_
            refine hK23 _ _ ?_; clear hK23
            refine wp_seq_k fun K24 hK24 => ?_
            refine d_start (S := (fun w => Sat w0 w _)) (ds := [13]) (ord := [(0, .pu), (1, .pu), (2, .pu), (3, .tk), (4, .pu), (5, .pu), (6, .pu), (7, .tk), (8, .pu), (9, .tk), (10, .pu), (11, .pu), (12, .tk), (13, .ls)]) mixed ⟨by kernel_rfl, fun _ d _ _ _ h => by cases d <;> exact h⟩ hS.drew fun hD => ?_
            replace hS := hS.drew; generalize w.drew = w at hS ⊢
            refine d_pu hD hF rfl rfl rfl rfl rfl (pu_move (hF.ev rfl)) ?_; clear hF; intro a hF
            refine d_pu hD hF rfl rfl rfl rfl rfl ((by exact pu_nil (hF.ev rfl))) ?_; clear hF; intro a hF
            refine d_pu hD hF rfl rfl rfl rfl rfl ((by exact pu_field fd91_0 (hF.ev rfl))) ?_; clear hF; intro a hF
            refine d_rd hD hF rfl rfl rfl rfl rfl hS (fun w hS => (by exact rd_load pl84 (hF.ev rfl) (hS.cellL (i := 0) rfl rfl))) ?_; clear hF; intro a hF
            refine d_pu hD hF rfl rfl rfl rfl rfl (pu_move (hF.ev rfl)) ?_; clear hF; intro a hF
            refine d_pu hD hF rfl rfl rfl rfl rfl ((by exact pu_nil (hF.ev rfl))) ?_; clear hF; intro a hF
            refine d_pu hD hF rfl rfl rfl rfl rfl ((by exact pu_field fd91_5 (hF.ev rfl))) ?_; clear hF; intro a hF
            refine d_rd hD hF rfl rfl rfl rfl rfl hS (fun w hS => (by exact rd_load pl87 (hF.ev rfl) (hS.cellL (i := 0) rfl rfl))) ?_; clear hF; intro a hF
            refine d_pu hD hF rfl rfl rfl rfl rfl (pu_move (hF.ev rfl)) ?_; clear hF; intro a hF
            refine d_rd hD hF rfl rfl rfl rfl rfl hS (fun w hS => rd_look1_s 2 (int_keys Try.underlying3) Try.underlying87 (by kernel_rfl : zeroO Try.prog 97 = some (.pointer none)) (hF.ev rfl) (hF.ev rfl) hS rfl hget0) ?_; clear hF; intro a hF
            refine d_pu hD hF rfl rfl rfl rfl rfl ((by exact pu_nil (hF.ev rfl))) ?_; clear hF; intro a hF
            refine d_pu hD hF rfl rfl rfl rfl rfl ((by exact pu_field fd100_1 (hF.ev rfl))) ?_; clear hF; intro a hF
            refine d_rd hD hF rfl rfl rfl rfl rfl hS (fun w hS => (by exact rd_load pl3 (hF.ev rfl) (hS.cellL (i := 3) rfl rfl))) ?_; clear hF; intro a hF
            refine l_en hD hF rfl rfl rfl rfl rfl (run_fn fk33 (hF.ev rfl) (hF.evs rfl)) (at_place 4 hS rfl (fun h => wCancel_i h hri1 (by omega) hen0 ht0 h00 hpl1)) ?_
            clear hS; rintro e w ⟨rfl, hS⟩
            simp only [del] at hS
            refine ⟨_, rfl, ?_⟩; clear hF; intro a hF
            refine d_done hD rfl ?_; clear hD
            refine hK24 _ _ ?_; clear hK24
            refine wp_region_lit ?_
            replace hS := hS.sel [5, 4, 4, 4, 4, 4, 1, 2, 2, 2, 2, 1]
            simp only [selR, nth, del] at hS
            obtain ⟨T2, hT2⟩ : ∃ T2 : Tab, T2 = { T1 with P := T1.P.filter fun x => !decide (x.timer = o9.timer) } := ⟨_, rfl⟩
            have hL2 : T2.L = A0 ++ o9 :: B0 := by rw [hT2]; exact hL0
            have hT20 : tabO g T2 (bA0 ++ b0 :: bB0) wg2 km2 kk2 kw2 (.slice o3 (waitsL T2.L).length d3) (.slice (some ⟨gl, 0, none⟩) (latesL T2.L).length d4) =
              [.obj g (.cells #[.pointer (some ⟨wg2, 0, none⟩), .int .i64 T1.most, .int .i64 T1.timeout, .int .i64 T1.remember, .int .i64 T1.next, .map (some km2), .map (some kk2), .map (some kw2), .slice o3 (waitsL T1.L).length d3, .slice (some ⟨gl, 0, none⟩) (latesL T1.L).length d4] 91 (0, 0)),
               mapC (Value.int .i64) ptrV km2 (allL T1.L (bA0 ++ b0 :: bB0)), mapC PKey.val (Value.int .i64) kk2 (keysL T1.L), mapC wayV (Value.int .i64) kw2 (waysL T1.L),
               rowC 3 1 (.slice o3 (waitsL T1.L).length d3) (waitsL T1.L).length (ints (waitsL T1.L)), rowC 3 1 (.slice (some ⟨gl, 0, none⟩) (latesL T1.L).length d4) (latesL T1.L).length (ints (latesL T1.L)), whC_i wg2 256 (T1.P.filter fun x => !decide (x.timer = o9.timer)) T1.now T1.last] := by rw [hT2]; rfl
            replace hS : Sat w0 w (mesC k (.slice O1 y1 z1, .slice O2 y2 z2) o9.p :: .obj b0 (o9.obj (.slice O1 y1 z1, .slice O2 y2 z2)) :: ([rowC 3 1 (.slice (some ⟨ga, 0, none⟩) ds.length dc) ds.length (ints ds), rowC 35 12 (.slice A112 (lt.length + 1) q112) (lt.length + 1) (pndCells lt ls ++ e.p.cells (.slice D1 m3 q3, .slice D2 m4 q4)), rowC 35 12 (.slice gA gn.length gc) gn.length (pndCells gn gs), mesC k (.slice D1 m3 q3, .slice D2 m4 q4) e.p] ++ (tabO g T2 (bA0 ++ b0 :: bB0) wg2 km2 kk2 kw2 (.slice o3 (waitsL T2.L).length d3) (.slice (some ⟨gl, 0, none⟩) (latesL T2.L).length d4) ++ (entsC k (bA0 ++ bB0) (A0 ++ B0) ++ (messC k ls lt ++ (messC k gs gn ++ F)))))) := by
              rw [hT20]
              exact hS
            replace hS := tab_backX2 hL2 hl0 hb0 hS
            simp only [List.cons_append, List.nil_append] at hS
            have hroom2 : T2.L.length ≤ 140737488355328 := by rw [hT2]; exact hroom1
            refine s_pu hF rfl rfl rfl (pu_move (hF.ev rfl)) ?_; clear hF; intro a hF
            refine s_pu hF rfl rfl rfl (pu_move (hF.ev rfl)) ?_; clear hF; intro a hF
            refine s_pu hF rfl rfl rfl (pu_move (hF.ev rfl)) ?_; clear hF; intro a hF
            refine s_en hF rfl rfl rfl (run_fn fk34 (hF.ev rfl) (hF.evs rfl)) (at_place 4 hS rfl (fun h => drop_c hL2 hl0 h hroom2)) ?_
            clear hS; rintro e w ⟨O3, y3, z3, O4, y4, z4, rfl, hS⟩
            simp only [del, Ety.obj] at hS
            replace hS := hS.sel [6]
            simp only [selR, nth, del] at hS
            unfold Pnd.value
            refine ⟨_, rfl, ?_⟩; clear hF; intro a hF
            refine s_news hF rfl rfl rfl (ef_lit1 (cs := [_, _, _, _, _, _, _, _, _, _, _, _]) sl41 ze35 rfl (hF.ev rfl) (by rfl) rfl (by omega) (by omega)) hS ?_; clear hF hS; intro b147 w hS a hF
            (((refine s_append 1 0 hF rfl rfl sl41 el35 (hF.ev rfl) (hF.ev rfl) hS rfl rfl rfl (by rfl) (by unfold maxLen; omega) (by omega) ?_))); (clear hS hF; intro A148 q148 w hS a hF; (try simp only [upd, del] at hS))
            refine s_pu hF rfl rfl rfl (pu_assign (hF.ev rfl)) ?_; clear hF; intro a hF
            refine s_done ?_
            refine blk_normal ?_
            first
              | (have h0 := (hS.drop 1).drop 1
                 simp only [del] at h0
                 have h1 := mes_in (p := o9.p) (h0.sel [1, 1])
                 simp only [selR, nth, del] at h1
                 replace h1 := h1.sel [3, 3, 1, 1, 1]
                 simp only [selR, nth, del] at h1
                 have h2 := tab_cX (X := [_, _, _]) h1
                 simp only [List.cons_append, List.nil_append] at h2
                 have hpass : s9 = ({ T2 with L := A0 ++ B0 }, lt ++ [e.p], gn ++ [o9.p]) := by
                   rw [hs9]
                   unfold pass2
                   rw [hfd]
                   simp only [hmk]
                   rw [if_pos (by omega), ho9]
                   simp only [evict]
                   rw [hL0, rem_split hnn0, hT2]
                 rw [hpass]
                 refine ⟨A112, q112, A148, q148, ls ++ [(.slice D1 m3 q3, .slice D2 m4 q4)], gs ++ [(.slice O3 y3 z3, .slice O4 y4 z4)], by simp [hll], by simp [hgl], by simp only [List.length_append, List.length_cons, List.length_nil]; exact hF.sub ⟨rfl, rfl, rfl, rfl, rfl, rfl, trivial⟩, ?_⟩
                 simp only
                 rw [List.length_append, List.length_append, pndCells_snoc _ _ hll, messC_snoc hll, pndCells_snoc _ _ hgl, messC_snoc hgl, List.append_assoc, List.append_assoc]
                 refine h2.perm (((((?_ : List.Perm _ _).cons _).cons _).cons _).cons _)
                 exact (((List.perm_append_comm_assoc [_] (messC k ls lt) _).trans ((perm_end _ (messC k gs gn) F).append_left _)).cons _).trans (perm_end _ (messC k ls lt) _))
              | (have hpass : s9 = (T1, lt ++ [e.p], gn) := by
                   rw [hs9]
                   unfold pass2
                   rw [hfd]
                   simp only [hmk]
                   rw [if_neg (by omega)]
                 rw [hpass]
                 have h1 := hS.sel [0, 0, 0, 1]
                 simp only [selR, nth, del] at h1
                 have h2 := tab_cX (X := [_, _, _]) h1
                 simp only [List.cons_append, List.nil_append] at h2
                 refine ⟨A112, q112, gA, gc, ls ++ [(.slice D1 m3 q3, .slice D2 m4 q4)], gs, by simp [hll], hgl, by simp only [List.length_append, List.length_cons, List.length_nil]; exact hF.sub ⟨rfl, rfl, rfl, rfl, rfl, rfl, trivial⟩, ?_⟩
                 simp only
                 rw [List.length_append, pndCells_snoc _ _ hll, messC_snoc hll, List.append_assoc]
                 exact h2.perm (((((perm_end _ _ _).cons _).cons _).cons _).cons _))
          · -- cond 4 false
            try simp only [decide_eq_true_eq, decide_eq_false_iff_not, Bool.not_eq_true', Bool.not_eq_false', Int.not_lt, Int.not_le, ne_eq, Decidable.not_not, Bool.or_eq_true, Bool.or_eq_false_iff, Bool.and_eq_true, Bool.and_eq_false_imp] at hc4
            refine wp_skip ?_
            refine blk_normal ?_
            first
              | (have h0 := (hS.drop 1).drop 1
                 simp only [del] at h0
                 have h1 := mes_in (p := o9.p) (h0.sel [1, 1])
                 simp only [selR, nth, del] at h1
                 replace h1 := h1.sel [3, 3, 1, 1, 1]
                 simp only [selR, nth, del] at h1
                 have h2 := tab_cX (X := [_, _, _]) h1
                 simp only [List.cons_append, List.nil_append] at h2
                 have hpass : s9 = ({ T2 with L := A0 ++ B0 }, lt ++ [e.p], gn ++ [o9.p]) := by
                   rw [hs9]
                   unfold pass2
                   rw [hfd]
                   simp only [hmk]
                   rw [if_pos (by omega), ho9]
                   simp only [evict]
                   rw [hL0, rem_split hnn0, hT2]
                 rw [hpass]
                 refine ⟨A112, q112, A148, q148, ls ++ [(.slice D1 m3 q3, .slice D2 m4 q4)], gs ++ [(.slice O3 y3 z3, .slice O4 y4 z4)], by simp [hll], by simp [hgl], by simp only [List.length_append, List.length_cons, List.length_nil]; exact hF.sub ⟨rfl, rfl, rfl, rfl, rfl, rfl, trivial⟩, ?_⟩
                 simp only
                 rw [List.length_append, List.length_append, pndCells_snoc _ _ hll, messC_snoc hll, pndCells_snoc _ _ hgl, messC_snoc hgl, List.append_assoc, List.append_assoc]
                 refine h2.perm (((((?_ : List.Perm _ _).cons _).cons _).cons _).cons _)
                 exact (((List.perm_append_comm_assoc [_] (messC k ls lt) _).trans ((perm_end _ (messC k gs gn) F).append_left _)).cons _).trans (perm_end _ (messC k ls lt) _))
              | (have hpass : s9 = (T1, lt ++ [e.p], gn) := by
                   rw [hs9]
                   unfold pass2
                   rw [hfd]
                   simp only [hmk]
                   rw [if_neg (by omega)]
                 rw [hpass]
                 have h1 := hS.sel [0, 0, 0, 1]
                 simp only [selR, nth, del] at h1
                 have h2 := tab_cX (X := [_, _, _]) h1
                 simp only [List.cons_append, List.nil_append] at h2
                 refine ⟨A112, q112, gA, gc, ls ++ [(.slice D1 m3 q3, .slice D2 m4 q4)], gs, by simp [hll], hgl, by simp only [List.length_append, List.length_cons, List.length_nil]; exact hF.sub ⟨rfl, rfl, rfl, rfl, rfl, rfl, trivial⟩, ?_⟩
                 simp only
                 rw [List.length_append, pndCells_snoc _ _ hll, messC_snoc hll, List.append_assoc]
                 exact h2.perm (((((perm_end _ _ _).cons _).cons _).cons _).cons _))
      · -- behind the join s14
        clear hS hF hll hgl ls gs lA lc gA gc
        rintro a w ⟨lA, lc, gA, gc, ls, gs, hll, hgl, hF, hS⟩
        refine wp_region_lit ?_
        refine s_pu hF rfl rfl rfl ((by exact pu_add64 (hF.ev rfl) (hF.ev rfl) (by omega))) ?_; clear hF; intro a hF
        refine s_pu hF rfl rfl rfl (pu_move (hF.ev rfl)) ?_; clear hF; intro a hF
        refine s_done ?_
        exact ⟨_, by omega, i + 1, s9, lA, lc, gA, gc, ls, gs, rfl, by omega, by rw [fold_snoc hn, ← hse, hs9], hll, hgl, by omega, by omega, hrun', hF.sub ⟨rfl, rfl, rfl, rfl, rfl, rfl, trivial⟩, hS⟩
    · -- cond 2 false
      try simp only [decide_eq_true_eq, decide_eq_false_iff_not, Bool.not_eq_true', Bool.not_eq_false', Int.not_lt, Int.not_le, ne_eq, Decidable.not_not, Bool.or_eq_true, Bool.or_eq_false_iff, Bool.and_eq_true, Bool.and_eq_false_imp] at hc2
      refine wp_exit ?_
      refine then_exit ?_
      refine then_exit ?_
      refine blk_exit ?_
      refine hK7 _ _ ?_; clear hK7
      refine wp_seq_k fun K11 hK11 => ?_
      refine wp_region_lit ?_
      refine s_pu hF rfl rfl rfl (pu_move (hF.ev rfl)) ?_; clear hF; intro a hF
      refine s_pu hF rfl rfl rfl (pu_move (hF.ev rfl)) ?_; clear hF; intro a hF
      refine s_pu hF rfl rfl rfl (pu_assign (hF.ev rfl)) ?_; clear hF; intro a hF
      refine s_pu hF rfl rfl rfl (pu_assign (hF.ev rfl)) ?_; clear hF; intro a hF
      refine s_done ?_
      refine hK11 _ _ ?_; clear hK11
      refine wp_ret ?_
      refine fin2 Try.results16 hF rfl rfl ?_
      have hil : i = ds.length := by omega
      subst hil
      rw [List.take_length, ← hres] at hse
      rw [← hse]
      simp only
      refine ⟨lA, lc, gA, gc, rfl, ?_⟩
      refine list_open.2 ⟨ls, hll, ?_⟩
      have h1 := hS.tail.sel [1]
      simp only [selR, nth, del] at h1
      have h2 : Sat w0 w (rowC 35 12 (.slice gA gn.length gc) gn.length (pndCells gn gs) :: (messC k gs gn ++ (rowC 35 12 (.slice lA lt.length lc) lt.length (pndCells lt ls) :: (messC k ls lt ++ (tabC k g ⟨most, timeout, remember, next, L, P, now, last⟩ :: F))))) := by
        refine h1.perm (List.Perm.cons _ ?_)
        refine List.Perm.trans (List.Perm.cons _ ?_) (perm_end _ (messC k gs gn) _)
        refine (((List.perm_append_comm_assoc (messC k ls lt) (messC k gs gn) F).cons _).trans (perm_end _ (messC k gs gn) _)).trans ?_
        exact (perm_end _ (messC k ls lt) _).append_left _
      have h3 := list_open.2 ⟨gs, hgl, h2⟩
      exact (h3.front 1 rfl).perm ((perm_end _ (messC k ls lt) _).cons _)
end
end Go.Proofs.Ytbfdebddoncfhaa
