import Derived.Test.YtbpkfifiigpdcaaWs5
/-! The wheel's All: what a loop over it goes over. -/
namespace Go.Proofs.Ytbpkfifiigpdcaa
open Go Go.RowKit Go.Proofs.Ytbpkfifiigpdcaa.Sk
set_option linter.unusedVariables false
set_option linter.unusedSimpArgs false
set_option maxRecDepth 100000

/-! ### the slots, one behind the other -/
theorem flat_cons {n : Nat} {e : Ent} {P : List Ent} : ∀ {ks : List Nat}, ks.Nodup → (e.at_ % (n : Int)).toNat ∈ ks → ((ks.map (inSlot n (e :: P))).flatten).Perm (e :: (ks.map (inSlot n P)).flatten)
  | [], _, h => by cases h
  | k :: ks, hn, h => by
    simp only [List.nodup_cons] at hn
    simp only [List.map_cons, List.flatten_cons]
    by_cases hk : (e.at_ % (n : Int)).toNat = k
    · have e1 : inSlot n (e :: P) k = e :: inSlot n P k := by simp [inSlot, hk]
      have e2 : ks.map (inSlot n (e :: P)) = ks.map (inSlot n P) := by
        apply List.map_congr_left
        intro j hj
        have : ¬ (e.at_ % (n : Int)).toNat = j := fun h => hn.1 (by rw [← hk, h]; exact hj)
        simp [inSlot, this]
      rw [e1, e2, List.cons_append]
    · have e1 : inSlot n (e :: P) k = inSlot n P k := by simp [inSlot, hk]
      rw [e1]
      have hm : (e.at_ % (n : Int)).toNat ∈ ks := by
        rcases List.mem_cons.1 h with h | h
        · exact absurd h hk
        · exact h
      exact ((flat_cons hn.2 hm).append_left _).trans List.perm_middle
theorem flat_slots {n : Nat} (h1 : 1 ≤ n) : ∀ P : List Ent, (((List.range n).map (inSlot n P)).flatten).Perm P
  | [] => by
    have : (List.range n).map (inSlot n []) = List.replicate n [] := by
      apply List.ext_getElem?
      intro j
      by_cases hj : j < n <;> simp [hj, inSlot]
    rw [this]
    simp
  | e :: P => (flat_cons List.nodup_range (List.mem_range.2 (slot_lt h1 e.at_))).trans ((flat_slots h1 P).cons e)
theorem rows_nth {E : Nat} {C F : List Chunk} : ∀ {hs : List Value} {ls : List (List Ent)} {j : Nat} {h : Value} {l : List Ent}, hs[j]? = some h → ls[j]? = some l → nth (rowsC E hs ls ++ F) j = some (rowC E 3 h l.length (entCells l))
  | [], _, _, _, _, h1, _ => by simp at h1
  | _ :: _, [], _, _, _, _, h2 => by simp at h2
  | a :: hs, b :: ls, 0, _, _, h1, h2 => by simp at h1 h2; subst h1; subst h2; rfl
  | a :: hs, b :: ls, j + 1, _, _, h1, h2 => by
    have := rows_nth (E := E) (C := C) (F := F) (hs := hs) (ls := ls) (j := j) (by simpa using h1) (by simpa using h2)
    exact this
theorem flat_take {ls : List (List Ent)} {j : Nat} {l : List Ent} (h : ls[j]? = some l) : (ls.take (j + 1)).flatten = (ls.take j).flatten ++ l := by
  rw [List.take_add_one, h, List.flatten_append]
  simp
theorem flat_le : ∀ (ls : List (List Ent)) (j : Nat), (ls.take j).flatten.length ≤ ls.flatten.length
  | [], _ => by simp
  | l :: ls, 0 => by simp
  | l :: ls, j + 1 => by
    have := flat_le ls j
    simp only [List.take_succ_cons, List.flatten_cons, List.length_append]
    omega
/-- What comes in round i. -/
def encE (l : List Ent) (i : Nat) : List Value := [.int .i64 (l.getD i default).timer, (l.getD i default).v]
section
variable {w0 w : World} {F : List Chunk} {g n : Nat} {P : List Ent} {now last : Int}
theorem wAll_c (hS : Sat w0 w F) : Calls Try.prog 25 #[.pointer (some ⟨g, 0, none⟩)] w fun e w' => ∃ b, e = .returned (.func (.func 44) #[] #[.pointer (some ⟨b, 0, none⟩)]) ∧ Sat w0 w' (.obj b (.cells #[.pointer (some ⟨g, 0, none⟩)] 38) :: F) := by
  refine enter Try.func25 rfl Try.ntmps25 (Nat.le_of_ble_eq_true rfl) fun a hF => ?_
  refine wp_seq_k fun K0 hK0 => ?_
  refine wp_region_lit ?_
  refine s_newp hF rfl rfl rfl (ef_box (cs := #[_]) (hF.ev rfl) rfl) hS ?_; clear hF hS; intro b1 w hS a hF
  refine s_pu hF rfl rfl rfl (pu_assign (hF.ev rfl)) ?_; clear hF; intro a hF
  refine s_done ?_
  refine hK0 _ _ ?_; clear hK0
  refine wp_seq_k fun K1 hK1 => ?_
  refine wp_region_lit ?_
  refine s_pu hF rfl rfl rfl (pu_func (hF.evs rfl)) ?_; clear hF; intro a hF
  refine s_pu hF rfl rfl rfl (pu_assign (hF.ev rfl)) ?_; clear hF; intro a hF
  refine s_done ?_
  refine hK1 _ _ ?_; clear hK1
  refine wp_ret ?_
  refine fin1 Try.results25 hF rfl ?_
  exact ⟨_, rfl, hS⟩
theorem wAll_it {bx l : Nat} {σ τ : Type} {φ : Nat → σ → Prop} {D : σ → Chunk} {ψ : τ → Prop} {X : τ → Chunk} (hS : Sat w0 w (.obj bx (.cells #[.pointer (some ⟨g, 0, none⟩)] 38) :: whC_i g n P now last :: F))
    (h0 : ∀ w G, Sat w0 w (.obj bx (.cells #[.pointer (some ⟨g, 0, none⟩)] 38) :: whC_i g n P now last :: (F ++ G)) → ∃ s, φ 0 s ∧ Sat w0 w (D s :: G))
    (hR : Rounds w0 Try.prog l P.length (encE (sortE P)) φ D ψ X) (h1 : 1 ≤ n) (h2 : n ≤ 4096) (hri : Rising P last) (hroom : (P.length + 1) * 24 ≤ 140737488355328) :
    Calls Try.prog 44 #[.func (.yield l) #[] #[], .pointer (some ⟨bx, 0, none⟩)] w (Ranged w0 P.length φ D ψ X) := by
  have hS0 := (hS.sel [1])
  simp only [selR, nth, del] at hS0
  unfold whC_i at hS0
  rw [wheel_open] at hS0
  obtain ⟨sb, m, hs, hl, hS1⟩ := hS0
  have hlen : (Whl.of n P now last).slots.length = n := of_len
  obtain ⟨ls, hls⟩ : ∃ ls, ls = (Whl.of n P now last).slots := ⟨_, rfl⟩
  rw [← hls] at hS1 hl hlen
  have hfl : (ls.flatten).Perm P := by rw [hls]; exact flat_slots h1 P
  have hfll := hfl.length_eq
  clear hS
  have hS1 : Sat w0 w (.obj g (.cells #[.slice (some ⟨sb, 0, none⟩) ls.length ls.length, .map (some m), .int .i64 now, .int .i64 last] 86 (0, 0)) :: mapC (Value.int .i64) (Value.int .i64) m (Whl.of n P now last).ticks :: .obj sb (.cells hs.toArray 87 (0, 0)) :: (rowsC 89 hs ls ++ (.obj bx (.cells #[.pointer (some ⟨g, 0, none⟩)] 38) :: F))) := hS1
  have hS := row_nil (E := 89) (sz := 3) (hS1.perm (List.perm_middle (l₁ := _ :: _ :: _ :: rowsC 89 hs ls)))
  clear hS1
  refine enterY Try.func44 rfl Try.ntmps44 (Nat.le_of_ble_eq_true rfl) fun a hF => ?_
  refine wpIn_seq_k fun K0 hK0 => ?_
  refine wr_region rfl ?_
  refine s_pu hF rfl rfl rfl (pu_assign (hF.ev rfl)) ?_; clear hF; intro a hF
  refine s_done ?_
  refine sure_in ?_
  refine hK0 _ _ ?_; clear hK0
  refine wpIn_seq_k fun K1 hK1 => ?_
  refine wpIn_seq_k fun K2 hK2 => ?_
  refine wr_region rfl ?_
  refine s_rd hF rfl rfl rfl (by exact rd_load pl38 (hF.ev rfl) (hS.cellL (i := 1) rfl rfl)) ?_; clear hF; intro a hF
  refine s_pu hF rfl rfl rfl ((by exact pu_nil (hF.ev rfl))) ?_; clear hF; intro a hF
  refine s_pu hF rfl rfl rfl ((by exact pu_field fd86_0 (hF.ev rfl))) ?_; clear hF; intro a hF
  refine s_rd hF rfl rfl rfl (by exact rd_load pl84 (hF.ev rfl) (hS.cellL (i := 2) rfl rfl)) ?_; clear hF; intro a hF
  refine s_pu hF rfl rfl rfl (pu_len sl84 (hF.ev rfl)) ?_; clear hF; intro a hF
  refine s_pu hF rfl rfl rfl (pu_move (hF.ev rfl)) ?_; clear hF; intro a hF
  refine s_done ?_
  refine sure_in ?_
  refine hK2 _ _ ?_; clear hK2
  refine wpIn_block ?_
  refine wr_ind (fun j a w => ∃ (i : Nat) (o : Option Addr) (d : Nat), j = n - i ∧ i ≤ n ∧
    Fr a 37 [(0, .func (.yield l) #[] #[]), (3, .slice o (ls.take i).flatten.length d), (11, .slice (some ⟨sb, 0, none⟩) n n), (12, .int .i64 n), (13, .int .i64 i)] ∧
    Sat w0 w (rowC 89 3 (.slice o (ls.take i).flatten.length d) (ls.take i).flatten.length (entCells (ls.take i).flatten) :: .obj bx (.cells #[.pointer (some ⟨g, 0, none⟩)] 38) ::
      .obj g (.cells #[.slice (some ⟨sb, 0, none⟩) n n, .map (some m), .int .i64 now, .int .i64 last] 86 (0, 0)) ::
      mapC (Value.int .i64) (Value.int .i64) m (Whl.of n P now last).ticks :: .obj sb (.cells hs.toArray 87 (0, 0)) :: (rowsC 89 hs ls ++ F))) n
    ⟨0, none, 0, by omega, by omega, hF.sub ⟨rfl, rfl, by rw [← hlen]; rfl, by rw [← hlen]; rfl, rfl, trivial⟩, by simpa [hlen, entCells] using hS⟩ ?_
  clear hS hF
  rintro j a w ⟨i, o, d, rfl, hi, hF, hS⟩
  refine wpIn_seq_k fun K3 hK3 => ?_
  refine wr_region rfl ?_
  refine s_pu hF rfl rfl rfl (pu_lss (hF.ev rfl) (hF.ev rfl)) ?_; clear hF; intro a hF
  refine s_done ?_
  refine sure_in ?_
  refine hK3 _ _ ?_; clear hK3
  refine wpIn_seq_k fun K4 hK4 => ?_
  refine wpIn_cond_split (hF.ev rfl) (fun hc0 => ?_) (fun hc0 => ?_)
  · -- cond 0 true
    try simp only [decide_eq_true_eq, decide_eq_false_iff_not, Bool.not_eq_true', Bool.not_eq_false', Int.not_lt, Int.not_le, ne_eq, Decidable.not_not, Bool.or_eq_true, Bool.or_eq_false_iff, Bool.and_eq_true, Bool.and_eq_false_imp] at hc0
    have hin : i < n := by omega
    obtain ⟨h, hh⟩ : ∃ h, hs[i]? = some h := ⟨hs[i]'(by omega), List.getElem?_eq_getElem _⟩
    obtain ⟨sl, hsl⟩ : ∃ sl, ls[i]? = some sl := ⟨ls[i]'(by omega), List.getElem?_eq_getElem _⟩
    have hrow := rows_nth (E := 89) (C := []) (F := F) hh hsl
    have hrow2 : ∀ c0 c1 c2 c3 c4, nth (c0 :: c1 :: c2 :: c3 :: c4 :: (rowsC 89 hs ls ++ F)) (i + 5) = some (rowC 89 3 h sl.length (entCells sl)) := fun _ _ _ _ _ => hrow
    obtain ⟨As, cs, rfl, _⟩ := row_val (hS.front (i + 5) (hrow2 _ _ _ _ _))
    have hcell : hs.toArray[0 + (i : Int).toNat * 1]? = some (.slice As sl.length cs) := by simpa using hh
    have hcw : w.cell? ⟨sb, 0 + (i : Int).toNat * 1, none⟩ = some (.slice As sl.length cs) := hS.cell (i := 4) rfl hcell
    have hle := flat_le ls (i + 1)
    have hft := flat_take hsl
    rw [hft, List.length_append] at hle
    refine wpIn_skip ?_
    refine hK4 _ _ ?_; clear hK4
    refine wpIn_seq_k fun K5 hK5 => ?_
    refine wpIn_block ?_
    refine wpIn_seq_k fun K6 hK6 => ?_
    refine wr_region rfl ?_
    refine s_pu hF rfl rfl rfl ((by exact pu_elem sl84 (hF.ev rfl) (hF.ev rfl) (by omega) (by omega))) ?_; clear hF; intro a hF
    refine s_rd hF rfl rfl rfl (by exact rd_load pl87 (hF.ev rfl) (by assumption)) ?_; clear hF; intro a hF
    refine s_pu hF rfl rfl rfl (pu_assign (hF.ev rfl)) ?_; clear hF; intro a hF
    refine s_done ?_
    refine sure_in ?_
    refine hK6 _ _ ?_; clear hK6
    refine wr_region rfl ?_
    refine s_pu hF rfl rfl rfl (pu_move (hF.ev rfl)) ?_; clear hF; intro a hF
    refine s_pu hF rfl rfl rfl (pu_move (hF.ev rfl)) ?_; clear hF; intro a hF
    refine s_appendV 0 hF rfl rfl sl87 el89 (hF.ev rfl) (hF.ev rfl) hS rfl (news := entCells sl) (entCells_len _) (win_row hS (hrow2 _ _ _ _ _)) (entCells_one _) (by unfold maxLen; omega) (by omega) ?_; clear hF hS; intro A19 q19 w hS a hF
    simp only [del] at hS
    refine s_pu hF rfl rfl rfl (pu_assign (hF.ev rfl)) ?_; clear hF; intro a hF
    refine s_done ?_
    refine sure_in ?_
    refine blk_normal ?_
    refine hK5 _ _ ?_; clear hK5
    refine wr_region rfl ?_
    refine s_pu hF rfl rfl rfl ((by exact pu_add64 (hF.ev rfl) (hF.ev rfl) (by omega))) ?_; clear hF; intro a hF
    refine s_pu hF rfl rfl rfl (pu_move (hF.ev rfl)) ?_; clear hF; intro a hF
    refine s_done ?_
    refine sure_in ?_
    refine ⟨n - (i + 1), by omega, i + 1, A19, q19, rfl, by omega, hF.sub ⟨rfl, by rw [hft, List.length_append]; rfl, rfl, rfl, rfl, trivial⟩, ?_⟩
    rw [hft, entCells_append, List.length_append]
    exact hS
  · -- cond 0 false
    try simp only [decide_eq_true_eq, decide_eq_false_iff_not, Bool.not_eq_true', Bool.not_eq_false', Int.not_lt, Int.not_le, ne_eq, Decidable.not_not, Bool.or_eq_true, Bool.or_eq_false_iff, Bool.and_eq_true, Bool.and_eq_false_imp] at hc0
    refine wpIn_exit ?_
    refine then_exit ?_
    refine then_exit ?_
    refine blk_exit ?_
    refine hK1 _ _ ?_; clear hK1
    refine wpIn_seq_k fun K5 hK5 => ?_
    refine wr_region rfl ?_
    have hin : i = n := by omega
    subst hin
    rw [List.take_of_length_le (by omega)] at hS hF
    have hnd : (ls.flatten.map Ent.timer).Nodup := (hfl.map Ent.timer).nodup_iff.2 hri.nodup
    have hsort : sortE ls.flatten = sortE P := sortE_unique hri.nodup ((sortE_perm _).trans hfl) (sortE_sorted _)
    refine s_pu hF rfl rfl rfl (pu_move (hF.ev rfl)) ?_; clear hF; intro a hF
    refine s_en hF rfl rfl rfl (run_fn fk45 (hF.ev rfl) (hF.evs rfl)) (sort_c hS hnd (by omega)) ?_
    clear hS; rintro e w ⟨rfl, hS⟩
    refine ⟨_, rfl, ?_⟩; clear hF; intro a hF
    refine s_done ?_
    refine sure_in ?_
    rw [hsort, hfll] at hS
    rw [hfll] at hF
    have hS2 : Sat w0 w (.obj bx (.cells #[.pointer (some ⟨g, 0, none⟩)] 38) :: whC_i g i P now last :: (F ++ [rowC 89 3 (.slice o P.length d) P.length (entCells (sortE P))])) := by
      have h3 := hS.perm ((List.perm_append_comm (l₁ := [rowC 89 3 (.slice o P.length d) P.length (entCells (sortE P))]) (l₂ := _ :: _ :: _ :: _ :: (rowsC 89 hs ls ++ F))))
      have h4 : Sat w0 w (.obj g (.cells #[.slice (some ⟨sb, 0, none⟩) ls.length ls.length, .map (some m), .int .i64 now, .int .i64 last] 86 (0, 0)) :: mapC (Value.int .i64) (Value.int .i64) m (Whl.of i P now last).ticks :: .obj sb (.cells hs.toArray 87 (0, 0)) ::
          (rowsC 89 hs ls ++ (.obj bx (.cells #[.pointer (some ⟨g, 0, none⟩)] 38) :: (F ++ [rowC 89 3 (.slice o P.length d) P.length (entCells (sortE P))])))) := by
        rw [hlen]
        refine h3.perm ?_
        have e1 : ∀ (b c1 c2 c3 : Chunk) (R G : List Chunk), ((b :: c1 :: c2 :: c3 :: (R ++ F)) ++ G).Perm (c1 :: c2 :: c3 :: (R ++ (b :: (F ++ G)))) := by
          intro b c1 c2 c3 R G
          have e2 : (b :: c1 :: c2 :: c3 :: (R ++ F)) ++ G = b :: ((c1 :: c2 :: c3 :: R) ++ (F ++ G)) := by simp
          rw [e2]
          exact (List.perm_middle (l₁ := c1 :: c2 :: c3 :: R) (l₂ := F ++ G)).symm
        exact e1 _ _ _ _ _ _
      have h5 : Sat w0 w (whC_i g i P now last :: .obj bx (.cells #[.pointer (some ⟨g, 0, none⟩)] 38) :: (F ++ [rowC 89 3 (.slice o P.length d) P.length (entCells (sortE P))])) := by
        unfold whC_i
        rw [wheel_open, ← hls]
        exact ⟨sb, m, hs, hl, h4⟩
      exact h5.sel [1]
    obtain ⟨s0, hs0, hS3⟩ := h0 w _ hS2
    clear hS hS2
    have hS := hS3
    clear hS3
    have hsl := sortE_len P
    refine hK5 _ _ ?_; clear hK5
    refine wpIn_seq_k fun K6 hK6 => ?_
    refine wr_region rfl ?_
    refine s_pu hF rfl rfl rfl (pu_move (hF.ev rfl)) ?_; clear hF; intro a hF
    refine s_pu hF rfl rfl rfl (pu_len sl87 (hF.ev rfl)) ?_; clear hF; intro a hF
    refine s_pu hF rfl rfl rfl (pu_move (hF.ev rfl)) ?_; clear hF; intro a hF
    refine s_done ?_
    refine sure_in ?_
    refine hK6 _ _ ?_; clear hK6
    refine wpIn_block ?_
    refine wr_ind (fun j a w => ∃ (k : Nat) (s : σ), j = P.length - k ∧ k ≤ P.length ∧ φ k s ∧
      Fr a 37 [(0, .func (.yield l) #[] #[]), (23, .slice o P.length d), (24, .int .i64 P.length), (25, .int .i64 k)] ∧
      Sat w0 w (D s :: [rowC 89 3 (.slice o P.length d) P.length (entCells (sortE P))])) P.length
      ⟨0, s0, by omega, by omega, hs0, hF.sub ⟨rfl, rfl, rfl, rfl, trivial⟩, hS⟩ ?_
    clear hS hF
    rintro j a w ⟨k, s, rfl, hk, hsk, hF, hS⟩
    refine wpIn_seq_k fun K7 hK7 => ?_
    refine wr_region rfl ?_
    refine s_pu hF rfl rfl rfl (pu_lss (hF.ev rfl) (hF.ev rfl)) ?_; clear hF; intro a hF
    refine s_done ?_
    refine sure_in ?_
    refine hK7 _ _ ?_; clear hK7
    refine wpIn_seq_k fun K8 hK8 => ?_
    refine wpIn_cond_split (hF.ev rfl) (fun hc1 => ?_) (fun hc1 => ?_)
    · -- cond 1 true
      try simp only [decide_eq_true_eq, decide_eq_false_iff_not, Bool.not_eq_true', Bool.not_eq_false', Int.not_lt, Int.not_le, ne_eq, Decidable.not_not, Bool.or_eq_true, Bool.or_eq_false_iff, Bool.and_eq_true, Bool.and_eq_false_imp] at hc1
      have hkl : k < P.length := by omega
      obtain ⟨e, he⟩ : ∃ e, (sortE P)[k]? = some e := ⟨(sortE P)[k]'(by omega), List.getElem?_eq_getElem _⟩
      obtain ⟨go, rfl⟩ := row_some (i := 1) hS rfl (by omega)
      have hev := e.one
      have hen : encE (sortE P) k = [.int .i64 e.timer, e.v] := by
        unfold encE
        rw [List.getD_eq_getElem?_getD, he]
        rfl
      refine wpIn_skip ?_
      refine hK8 _ _ ?_; clear hK8
      refine wpIn_seq_k fun K9 hK9 => ?_
      refine wpIn_block ?_
      refine wpIn_seq_k fun K10 hK10 => ?_
      refine wr_region rfl ?_
      refine s_pu hF rfl rfl rfl ((by exact pu_elem sl87 (hF.ev rfl) (hF.ev rfl) (by omega) (by omega))) ?_; clear hF; intro a hF
      refine s_rd hF rfl rfl rfl (rd_loadN (vs := [.int .i64 e.timer, .int .i64 e.at_, e.v]) ag89 (hF.ev rfl) rfl (row_load (i := 1) hS rfl (by omega) (entCells_at he))) ?_; clear hF; intro a hF
      refine s_newp hF rfl rfl rfl (ef_alloc (cs := #[_, _, _]) ze89 rfl) hS ?_; clear hF hS; intro b7 w hS a hF
      (((refine s_store (vs := [_, _, _]) (cs' := #[_, _, _]) 0 hF rfl (hF.ev rfl) (hF.ev rfl) hS rfl rfl sz89 (by ((simp only [List.all_cons, List.all_nil, Value.oneCell', Bool.and_true, Bool.true_and]; assumption))) (by exact Nat.le_of_ble_eq_true rfl) rfl ?_)))
      clear hS; intro w hS; (try simp only [upd, del] at hS)
      refine s_done ?_
      refine sure_in ?_
      refine hK10 _ _ ?_; clear hK10
      refine wpIn_seq_k fun K11 hK11 => ?_
      refine wpIn_region_lit ?_
      refine y_pu hF rfl rfl rfl (pu_move (hF.ev rfl)) ?_; clear hF; intro a hF
      have hY := hR.run k s _ w hkl hsk (hS.front 1 rfl)
      rw [hen] at hY
      refine y_pu hF rfl rfl rfl ((by exact pu_field fd89_0 (hF.ev rfl))) ?_; clear hF; intro a hF
      refine y_rd hF rfl rfl rfl (by exact rd_load pl3 (hF.ev rfl) (hS.cellL (i := 0) rfl rfl)) ?_; clear hF; intro a hF
      refine y_pu hF rfl rfl rfl ((by exact pu_field fd89_2 (hF.ev rfl))) ?_; clear hF; intro a hF
      refine y_rd hF rfl rfl rfl (by exact rd_load pl3 (hF.ev rfl) (hS.cellL (i := 0) rfl rfl)) ?_; clear hF; intro a hF
      refine y_yield hF rfl rfl (hF.ev rfl) (hF.evs rfl) (hY) ?_
      clear hS; rintro e w (⟨rfl, s2, hs2, hS⟩ | ⟨rfl, t2, ht2, hS⟩)
      · -- yield says yes
        refine ⟨_, rfl, ?_⟩; clear hF; intro a hF
        refine y_pu hF rfl rfl rfl (pu_not (hF.ev rfl)) ?_; clear hF; intro a hF
        refine y_done ?_
        refine hK11 _ _ ?_; clear hK11
        refine wpIn_cond_false (hF.ev rfl) ?_
        refine wpIn_skip ?_
        refine blk_normal ?_
        refine hK9 _ _ ?_; clear hK9
        refine wr_region rfl ?_
        refine s_pu hF rfl rfl rfl ((by exact pu_add64 (hF.ev rfl) (hF.ev rfl) (by omega))) ?_; clear hF; intro a hF
        refine s_pu hF rfl rfl rfl (pu_move (hF.ev rfl)) ?_; clear hF; intro a hF
        refine s_done ?_
        refine sure_in ?_
        exact ⟨P.length - (k + 1), by omega, k + 1, s2, rfl, by omega, hs2, hF.sub ⟨rfl, rfl, rfl, rfl, trivial⟩, (hS.sel [0, 1]).left (C := [_, _])⟩
      · -- yield says no
        refine ⟨_, rfl, ?_⟩; clear hF; intro a hF
        refine y_pu hF rfl rfl rfl (pu_not (hF.ev rfl)) ?_; clear hF; intro a hF
        refine y_done ?_
        refine hK11 _ _ ?_; clear hK11
        refine wpIn_cond_true (hF.ev rfl) ?_
        refine wpIn_ret ?_
        refine blk_ret ?_
        refine then_ret ?_
        refine then_ret ?_
        refine blk_ret ?_
        refine fin0r Try.results44 hF ?_
        exact ⟨⟨_, rfl⟩, .inr ⟨t2, ht2, hS.left (C := [_])⟩⟩
    · -- cond 1 false
      try simp only [decide_eq_true_eq, decide_eq_false_iff_not, Bool.not_eq_true', Bool.not_eq_false', Int.not_lt, Int.not_le, ne_eq, Decidable.not_not, Bool.or_eq_true, Bool.or_eq_false_iff, Bool.and_eq_true, Bool.and_eq_false_imp] at hc1
      refine wpIn_exit ?_
      refine then_exit ?_
      refine then_exit ?_
      refine blk_exit ?_
      refine fin0 Try.results44 hF ?_
      have hkl : k = P.length := by omega
      subst hkl
      exact ⟨⟨_, rfl⟩, .inl ⟨s, hsk, hS.left (C := [_])⟩⟩
end
end Go.Proofs.Ytbpkfifiigpdcaa
