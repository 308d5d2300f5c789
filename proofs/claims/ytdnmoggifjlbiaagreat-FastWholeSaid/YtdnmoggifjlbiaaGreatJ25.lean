/- Joined texts, 25: AmZb LawFb. -/
import Derived.Test.YtdnmoggifjlbiaaGreatJ15
import Derived.Test.YtdnmoggifjlbiaaGreatJ24
set_option linter.unusedVariables false
set_option linter.unusedSimpArgs false
/- Two slices that are gathered at a time. -/
namespace Go.Proofs.YtdnmoggifjlbiaaGreat.AM
open Go Go.RowKit Go.Proofs.YtdnmoggifjlbiaaGreat.PN Go.Proofs.YtdnmoggifjlbiaaGreat.V
set_option linter.unusedVariables false
set_option linter.unusedSimpArgs false
abbrev acc2S (t1 t2 : Nat) (b1 b2 : Blk) (e : List (Nat × AV)) (l : List (Nat × Fam)) : St := stl ((t1, .own t1 0) :: (t2, .own t2 0) :: e) ((t1, (1, fun _ => b1)) :: (t2, (1, fun _ => b2)) :: l)
def s2 (t1 a1 t2 a2 : Nat) : Ren := fun g r => if g = t1 then (a1, r) else if g = t2 then (a2, r) else (g, r)
theorem s2_1 {t1 a1 t2 a2 r : Nat} : s2 t1 a1 t2 a2 t1 r = (a1, r) := by unfold s2; rw [if_pos rfl]
theorem s2_2 {t1 a1 t2 a2 r : Nat} (h : t2 ≠ t1) : s2 t1 a1 t2 a2 t2 r = (a2, r) := by unfold s2; rw [if_neg h, if_pos rfl]
theorem s2_ne {t1 a1 t2 a2 g r : Nat} (h : g ≠ t1) (h' : g ≠ t2) : s2 t1 a1 t2 a2 g r = (g, r) := by unfold s2; rw [if_neg h, if_neg h']
theorem s2_inj {t1 a1 t2 a2 : Nat} {l : List Nat} (ht : t2 ≠ t1) (ha : a1 ≠ a2) (h1 : notIn t1 a1 l = true) (h2 : notIn t2 a2 l = true) (g1 r1 g2 r2 : Nat) (k1 : memN g1 (t1 :: t2 :: l) = true) (k2 : memN g2 (t1 :: t2 :: l) = true) (e : s2 t1 a1 t2 a2 g1 r1 = s2 t1 a1 t2 a2 g2 r2) : g1 = g2 ∧ r1 = r2 := by
  have key : ∀ g, memN g (t1 :: t2 :: l) = true → g = t1 ∨ g = t2 ∨ (memN g l = true ∧ (g ≠ t1 ∧ g ≠ a1) ∧ g ≠ t2 ∧ g ≠ a2) := fun g h => by
    rcases memN_uncons h with h | h
    · exact .inl h
    · rcases memN_uncons h with h | h
      · exact .inr (.inl h)
      · exact .inr (.inr ⟨h, notIn_ne h1 _ h, notIn_ne h2 _ h⟩)
  rcases key g1 k1 with rfl | rfl | ⟨_, m1, m2⟩ <;> rcases key g2 k2 with rfl | rfl | ⟨_, n1, n2⟩
  · rw [s2_1, s2_1] at e; cases e; exact ⟨rfl, rfl⟩
  · rw [s2_1, s2_2 ht] at e; cases e; exact absurd rfl ha
  · rw [s2_1, s2_ne n1.1 n2.1] at e; cases e; exact absurd rfl n1.2
  · rw [s2_1, s2_2 ht] at e; cases e; exact absurd rfl ha
  · rw [s2_2 ht, s2_2 ht] at e; cases e; exact ⟨rfl, rfl⟩
  · rw [s2_2 ht, s2_ne n1.1 n2.1] at e; cases e; exact absurd rfl n2.2
  · rw [s2_1, s2_ne m1.1 m2.1] at e; cases e; exact absurd rfl m1.2
  · rw [s2_2 ht, s2_ne m1.1 m2.1] at e; cases e; exact absurd rfl m2.2
  · rw [s2_ne n1.1 n2.1, s2_ne m1.1 m2.1] at e; cases e; exact ⟨rfl, rfl⟩
theorem blk_id (b : Blk) : BLe idR b b := by
  cases b with
  | rats n f => exact blen rfl fun _ _ => rfl
  | ones T n f => exact bleo rfl fun _ _ => Le.id rfl
theorem nilB_ok {b : Blk} (h : nilB b) (U : Nat → Bool) : b.ok U := by
  cases b with
  | rats n f => exact True.intro
  | ones T n f => exact fun i hi => by have := h.2; omega
/-- The state with two slices of nothing. -/
abbrev two0 (s : St) (t1 t2 : Nat) (b1 b2 : Blk) : St := ⟨put (put s.env t1 (some (.own t1 0))) t2 (some (.own t2 0)), put (put s.heap t1 (some (1, fun _ => b1))) t2 (some (1, fun _ => b2)), mark (mark s.used t1) t2⟩
theorem acc2_start {s : St} {t1 t2 : Nat} {b1 b2 : Blk} {e : List (Nat × AV)} {l : List (Nat × Fam)} (h1 : s.env t1 = some (.v (.slice none 0 0))) (h2 : s.env t2 = some (.v (.slice none 0 0))) (g1 : s.used t1 = false) (g2 : s.used t2 = false) (n1 : nilB b1) (n2 : nilB b2) (h60 : s.used 60 = false) (hne : t2 ≠ t1 ∧ t1 ≠ 60 ∧ t2 ≠ 60)
    (he : AllE (two0 s t1 t2 b1 b2) idR (fun g => memN g (t1 :: t2 :: keys l)) e) (hl : AllH (two0 s t1 t2 b1 b2) idR (fun g => memN g (t1 :: t2 :: keys l)) l) : Imp s (acc2S t1 t2 b1 b2 e l) := by
  obtain ⟨h21, h1n, h2n⟩ := hne
  refine (imp_nil t1 t1 b1 h1 g1 n1).trans ((imp_nil t2 t2 b2 ((put_ne _ _ h21).trans h2) ((mark_ne _ h21).trans g2) n2).trans (imp_id (h := (t1, (1, fun _ => b1)) :: (t2, (1, fun _ => b2)) :: l) ⟨⟨_, (put_ne _ _ (Ne.symm h21)).trans (put_same _ _ _), Le.id rfl, memN_head _ _⟩, ⟨_, put_same _ _ _, Le.id rfl, memN_tail (memN_head _ _)⟩, he⟩ ⟨fun r hr => ?_, fun r hr => ?_, hl⟩ ?_))
  · obtain rfl : r = 0 := by omega
    exact ⟨1, _, (put_ne _ _ (Ne.symm h21)).trans (put_same _ _ _), Nat.zero_lt_one, blk_id b1, nilB_ok n1 _⟩
  · obtain rfl : r = 0 := by omega
    exact ⟨1, _, put_same _ _ _, Nat.zero_lt_one, blk_id b2, nilB_ok n2 _⟩
  · show (!(mark (mark s.used t1) t2 60) || _) = true
    rw [mark_ne _ (Ne.symm h2n), mark_ne _ (Ne.symm h1n), h60]; rfl
theorem acc2_next {s : St} {t1 a1 t2 a2 : Nat} {b1 b1' b2 b2' : Blk} {F1 F2 : Nat → Blk} {e : List (Nat × AV)} {l : List (Nat × Fam)} (h1 : s.env t1 = some (.own a1 0)) (h2 : s.env t2 = some (.own a2 0)) (k1 : s.heap a1 = some (1, F1)) (k2 : s.heap a2 = some (1, F2)) (e1 : F1 0 = b1') (e2 : F2 0 = b2') (hb1 : BLe (s2 t1 a1 t2 a2) b1' b1) (hb2 : BLe (s2 t1 a1 t2 a2) b2' b2)
    (o1 : b1.ok (fun _ => false)) (o2 : b2.ok (fun _ => false)) (h60 : s.used 60 = false) (hne : t2 ≠ t1 ∧ a1 ≠ a2) (n1 : notIn t1 a1 (keys l) = true) (n2 : notIn t2 a2 (keys l) = true)
    (he : AllE s (s2 t1 a1 t2 a2) (fun g => memN g (t1 :: t2 :: keys l)) e) (hl : AllH s (s2 t1 a1 t2 a2) (fun g => memN g (t1 :: t2 :: keys l)) l) : Imp s (acc2S t1 t2 b1 b2 e l) := by
  refine imp_stl (h := (t1, (1, fun _ => b1)) :: (t2, (1, fun _ => b2)) :: l) (s2 t1 a1 t2 a2) (fun h => by rw [h60] at h; cases h) (s2_inj hne.1 hne.2 n1 n2) ⟨⟨_, h1, Le.own s2_1, memN_head _ _⟩, ⟨_, h2, Le.own (s2_2 hne.1), memN_tail (memN_head _ _)⟩, he⟩ ⟨fun r hr => ?_, fun r hr => ?_, hl⟩ (by rw [h60]; rfl)
  · obtain rfl : r = 0 := by omega
    rw [s2_1]
    exact ⟨1, F1, k1, Nat.zero_lt_one, by rw [e1]; exact hb1, Blk.ok_mono (fun g h => by cases h) o1⟩
  · obtain rfl : r = 0 := by omega
    rw [s2_2 hne.1]
    exact ⟨1, F2, k2, Nat.zero_lt_one, by rw [e2]; exact hb2, Blk.ok_mono (fun g h => by cases h) o2⟩
/-- The block behind a row that is laid into it. -/
theorem pub_blk {σ : Ren} {k m m' : Nat} {f v : Nat → AV} {q w : Nat → RA} (hf : ∀ i, i < k → f i = v i) (hq : ∀ j, j < m → q j = w j) (hv : v k = .row true m' w) (hm : m = m') (hok : ∀ i, (v i).ok (fun _ => false)) : BLe σ (.ones WT (k + 1) (updN f k (.row true m q))) (.ones WT (k + 1) v) := by
  refine bleo rfl fun i hi => ?_
  by_cases c : i = k
  · subst c
    rw [updN_same, hv]
    exact Le.row hm hq fun h => h
  · rw [updN_ne _ _ c, hf i (by omega)]
    exact Le.same (hok i)
end Go.Proofs.YtdnmoggifjlbiaaGreat.AM
/- Laws of matrices that are applied: FastRounds, FastWhole. -/
namespace Go.Proofs.YtdnmoggifjlbiaaGreat.AM
open Go Go.RowKit Go.Proofs.YtdnmoggifjlbiaaGreat.PN Go.Proofs.YtdnmoggifjlbiaaGreat.V
open Go.Proofs.YtdnmoggifjlbiaaGreat.LA (S S_succ S_zero S_congr S_single S_add)
set_option linter.unusedVariables false
set_option linter.unusedSimpArgs false
set_option maxRecDepth 8000
set_option maxHeartbeats 8000000
theorem k_rounds {kind n : Int} {ns : List Int} (hk : Fits .i64 kind) (hn : Fits .i64 n) (hz : AllFit ns) : Has Tryz.prog 7 [.i kind, .i n, .seq .i64 ns] (.b true) := by
  obtain ⟨t1, t2⟩ := wthn_lt (a := kind) (n := 3) (by decide)
  have hkk : ∃ kk : Int, ([0, 2, 5] : List Int).getD (wthn kind 3).toNat 0 = kk ∧ (kk = 0 ∨ kk = 2 ∨ kk = 5) := by
    refine ⟨_, rfl, ?_⟩
    have h3 : (wthn kind 3).toNat = 0 ∨ (wthn kind 3).toNat = 1 ∨ (wthn kind 3).toNat = 2 := by omega
    rcases h3 with h | h | h <;> rw [h]
    · exact .inl rfl
    · exact .inr (.inl rfl)
    · exact .inr (.inr rfl)
  obtain ⟨kk, ek, hk3⟩ := hkk
  have m := k_mk (kind := kk) (n := n) (most := 6) (zs := ns) (by show -9223372036854775808 ≤ kk ∧ kk ≤ 9223372036854775807; omega) hn hz (by decide) (by decide)
  have o := mkg_ok (kind := kk) (n := n) (zs := ns) (most := 6) (by decide) (by decide)
  have hg : (mkg kk n ns 6).k = 1 ∨ (mkg kk n ns 6).k = 3 ∨ (mkg kk n ns 6).k = 6 := by
    show mkK kk = 1 ∨ mkK kk = 3 ∨ mkK kk = 6
    rcases hk3 with rfl | rfl | rfl
    · exact .inl rfl
    · exact .inr (.inl rfl)
    · exact .inr (.inr rfl)
  generalize mkg kk n ns 6 = g at *
  have n8 := o.n8; have n1 := o.n1
  have gN : decide ((g.n : Int) ≠ g.n) = false := decide_eq_false fun h => h rfl
  refine has_of Tryz.func7 (by kernel_rfl) rfl Tryz.ntmps7 Tryz.results7 rfl rfl rfl ?_
  repeat(first|refine run1p ?_|((with_reducible apply st_call);exact rfl;exact rfl;exact rfl;first|(exact k_known9))|((with_reducible apply st_callg);exact rfl;exact rfl;(first|exact rfl|assumption);exact rfl;exact rfl;exact rfl;first|(exact k_known9)))
  refine awp_no rfl rfl ?_
  repeat(first|refine run1p ?_|((with_reducible apply st_call);exact rfl;exact rfl;exact rfl;first|(exact k_within9 (by decide) (by decide)))|((with_reducible apply st_callg);exact rfl;exact rfl;(first|exact rfl|assumption);exact rfl;exact rfl;exact rfl;first|(exact k_within9 (by decide) (by decide))))
  rw [ek]
  repeat(first|refine run1p ?_|((with_reducible apply st_call);exact rfl;exact rfl;exact rfl;first|(exact m)|(exact Has.ag (u' := g.f) (g7 rfl rfl rfl rfl rfl rfl rfl) (fs_disp (g := g) o)))|((with_reducible apply st_callg);exact rfl;exact rfl;(first|exact rfl|assumption);exact rfl;exact rfl;exact rfl;first|(exact m)|(exact Has.ag (u' := g.f) (g7 rfl rfl rfl rfl rfl rfl rfl) (fs_disp (g := g) o))))
  refine awp_no rfl gN ?_
  refine run0p ?_
  refine awp_loop (fun m' s => ∃ i, i ≤ g.n ∧ m' = g.n - i ∧ s = stl [(7, .ptr 7 0 0), (8, .mat true g.n (fun _ => g.n) (fun i j => .q (gdis g i j))), (9, .i (i : Int))] [(7, (1, fun _ => .ones 26 7 g.ft))]) g.n _ (imp_id ?_ ?_) ⟨0, Nat.zero_le _, rfl, rfl⟩ ?_
  · exact eA
  · exact allh rfl (by decide) (bleo rfl fun _ _ => Le.id rfl) (fun i _ => g.ftok _ i) True.intro
  rintro m' st ⟨i, hi, rfl, rfl⟩
  refine run0p ?_
  refine awp_if rfl (fun h => ?_) (fun h => ?_)
  · have hin : i < g.n := by omega
    refine run0p ?_
    refine awp_no rfl gN ?_
    refine run0p ?_
    refine q_loop ?_ (imp_id ?_ ?_) ⟨i + 1, ?_, rfl, rfl⟩
    · omega
    · exact eA
    · exact allh rfl (by decide) (bleo rfl fun _ _ => Le.id rfl) (fun i _ => g.ftok _ i) True.intro
    · omega
  refine run0p ?_
  refine awp_loop (fun m' s => ∃ i, i ≤ g.n ∧ m' = g.n - i ∧ s = stl [(7, .ptr 7 0 0), (8, .mat true g.n (fun _ => g.n) (fun i j => .q (gdis g i j))), (10, .i (i : Int))] [(7, (1, fun _ => .ones 26 7 g.ft))]) g.n _ (imp_id ?_ ?_) ⟨0, Nat.zero_le _, rfl, rfl⟩ ?_
  · exact eA
  · exact allh rfl (by decide) (bleo rfl fun _ _ => Le.id rfl) (fun i _ => g.ftok _ i) True.intro
  rintro m' st ⟨i, hi, rfl, rfl⟩
  refine run0p ?_
  refine awp_if rfl (fun h => ?_) (fun h => ?_)
  · have hin : i < g.n := by omega
    refine run0p ?_
    refine awp_loop (fun m' s => ∃ j, j ≤ g.n ∧ m' = g.n - j ∧ s = stl [(7, .ptr 7 0 0), (8, .mat true g.n (fun _ => g.n) (fun i j => .q (gdis g i j))), (10, .i (i : Int)), (11, .i (j : Int))] [(7, (1, fun _ => .ones 26 7 g.ft))]) g.n _ (imp_id ?_ ?_) ⟨0, Nat.zero_le _, rfl, rfl⟩ ?_
    · exact eA
    · exact allh rfl (by decide) (bleo rfl fun _ _ => Le.id rfl) (fun i _ => g.ftok _ i) True.intro
    rintro m' st ⟨j, hj, rfl, rfl⟩
    refine run0p ?_
    refine awp_if rfl (fun h1 => ?_) (fun h1 => ?_)
    · have hjn : j < g.n := by omega
      repeat(first|refine run1p ?_|((with_reducible apply st_call);exact rfl;exact rfl;exact rfl;first|(exact hs_zero))|((with_reducible apply st_callg);exact rfl;exact rfl;(first|exact rfl|assumption);exact rfl;exact rfl;exact rfl;first|(exact hs_zero)))
      refine awp_loop (fun m' s => ∃ k, k ≤ min i j + 1 ∧ m' = min i j + 1 - k ∧ s = stl [(7, .ptr 7 0 0), (8, .mat true g.n (fun _ => g.n) (fun i j => .q (gdis g i j))), (10, .i (i : Int)), (11, .i (j : Int)), (12, .rptr 12 0 0), (13, .i (k : Int))] [(7, (1, fun _ => .ones 26 7 g.ft)), (12, (1, fun _ => .rats 1 (fun _ => .q (S k fun k => gdis g (i - k) (j - k)))))]) (min i j + 1) _ (imp_id ?_ ?_) ⟨0, Nat.zero_le _, rfl, rfl⟩ ?_
      · exact eA
      · exact allh rfl (by decide) (bleo rfl fun _ _ => Le.id rfl) (fun i _ => g.ftok _ i) (by exact hA)
      rintro m' st ⟨k, hk, rfl, rfl⟩
      refine run0p ?_
      refine awp_if rfl (fun h2 => ?_) (fun h2 => ?_)
      · have h2 : k ≤ min i j := by omega
        have w1 : wt (S k fun k => gdis g (i - k) (j - k)) ≤ k * 701 + 1 := wt_sum (K := 700) fun u hu => gdis_wt o (by omega) (by omega)
        have w2 := gdis_wt o (i := i - k) (j := j - k) (by omega) (by omega)
        have e1 : ((i : Int) - (k : Int)).toNat = i - k := by omega
        have e2 : ((j : Int) - (k : Int)).toNat = j - k := by omega
        refine run0p ?_
        rw [e1]
        refine run0p ?_
        rw [e2]
        repeat(first|refine run1p ?_|((with_reducible apply st_call);exact rfl;exact rfl;exact rfl;first|(exact hs_add (by omega) (by omega)))|((with_reducible apply st_callg);exact rfl;exact rfl;(first|exact rfl|assumption);exact rfl;exact rfl;exact rfl;first|(exact hs_add (by omega) (by omega))))
        refine q_loop ?_ (imp_id ?_ ?_) ⟨k + 1, ?_, rfl, rfl⟩
        · omega
        · exact eA
        · exact allh rfl (by decide) (bleo rfl fun _ _ => Le.id rfl) (fun i _ => g.ftok _ i) (by exact hA)
        · omega
      · have ek : k = min i j + 1 := by omega
        have es : (S k fun k => gdis g (i - k) (j - k)) = gent g i j := by rw [ek]; exact gdis_sum hg hin hjn
        have w3 := gent_wt o hin hjn
        have cs := hs_same (p := gent g i j) (q := gent g i j) (by omega) (by omega)
        rw [decide_eq_true rfl] at cs
        rw [es]
        repeat(first|refine run1p ?_|((with_reducible apply st_call);exact rfl;exact rfl;exact rfl;first|(exact Has.ag (u' := g.f) (g7 rfl rfl rfl rfl rfl rfl rfl) (r5_entry (g := g) o hin hjn))|(exact cs))|((with_reducible apply st_callg);exact rfl;exact rfl;(first|exact rfl|assumption);exact rfl;exact rfl;exact rfl;first|(exact Has.ag (u' := g.f) (g7 rfl rfl rfl rfl rfl rfl rfl) (r5_entry (g := g) o hin hjn))|(exact cs)))
        refine awp_no rfl rfl ?_
        refine run0p ?_
        refine q_loop ?_ (imp_id ?_ ?_) ⟨j + 1, ?_, rfl, rfl⟩
        · omega
        · exact eA
        · exact allh rfl (by decide) (bleo rfl fun _ _ => Le.id rfl) (fun i _ => g.ftok _ i) True.intro
        · omega
    · refine run0p ?_
      refine q_loop ?_ (imp_id ?_ ?_) ⟨i + 1, ?_, rfl, rfl⟩
      · omega
      · exact eA
      · exact allh rfl (by decide) (bleo rfl fun _ _ => Le.id rfl) (fun i _ => g.ftok _ i) True.intro
      · omega
  · refine run0p ?_
    exact ⟨.inr rfl, _, Imp.refl _, .one (.tmp rfl)⟩
theorem k_whole {kind n k : Int} {ns vs ws : List Int} (hk : Fits .i64 kind) (hn : Fits .i64 n) (hz : AllFit ns) (hv : AllFit vs) (hw : AllFit ws) (hk2 : Fits .i64 k) : Has Tryz.prog 4 [.i kind, .i n, .seq .i64 ns, .seq .i64 vs, .seq .i64 ws, .i k] (.b true) := by
  have m := k_mk (kind := kind) (n := n) (most := 6) (zs := ns) hk hn hz (by decide) (by decide)
  have o := mkg_ok (kind := kind) (n := n) (zs := ns) (most := 6) (by decide) (by decide)
  generalize mkg kind n ns 6 = g at *
  have n8 := o.n8; have n1 := o.n1
  have hv1 : ∀ i, Wt (rowq vs i) 200 := fun i => ⟨by have := (rowq_wt vs i).le; omega⟩
  have hw1 : ∀ i, Wt (rowq ws i) 200 := fun i => ⟨by have := (rowq_wt ws i).le; omega⟩
  have hs1 : ∀ i, Wt (rowq vs i + rowq ws i) 200 := fun i => ⟨by have := (rowq_wt vs i).le; have := (rowq_wt ws i).le; have := wt_add (rowq vs i) (rowq ws i); omega⟩
  obtain ⟨t1, t2⟩ := wthn_lt (a := k) (n := (g.n : Int)) (by omega)
  obtain ⟨J, hJ⟩ : ∃ J : Nat, wthn k (g.n : Int) = J := ⟨(wthn k (g.n : Int)).toNat, by omega⟩
  have cw := k_within9 (a := k) (n := (g.n : Int)) (by omega) (by omega)
  rw [hJ] at cw t1 t2
  have hJn : J < g.n := by omega
  have he1 : ∀ i, Wt (if i = J then (1 : Rat) else 0) 200 := fun i => ⟨by split <;> decide⟩
  have c1 := fs_apply (v := fun i => if i = J then (1 : Rat) else 0) (n := g.n) o he1 (by omega)
  have ca := fs_apply (v := rowq vs) (n := g.n) o hv1 (by omega)
  have cb := fs_apply (v := rowq ws) (n := g.n) o hw1 (by omega)
  have cs := fs_apply (v := fun i => rowq vs i + rowq ws i) (n := g.n) o hs1 (by omega)
  rw [if_pos rfl] at c1 ca cb cs
  have gN : decide ((g.n : Int) ≠ g.n) = false := decide_eq_false fun h => h rfl
  have gN2 : (decide ((g.n : Int) ≠ g.n) == false) = true := by rw [gN]; rfl
  refine has_of Tryz.func4 (by kernel_rfl) rfl Tryz.ntmps4 Tryz.results4 rfl rfl rfl ?_
  repeat(first|refine run1p ?_|((with_reducible apply st_call);exact rfl;exact rfl;exact rfl;first|(exact k_known9))|((with_reducible apply st_callg);exact rfl;exact rfl;(first|exact rfl|assumption);exact rfl;exact rfl;exact rfl;first|(exact k_known9)))
  refine awp_no rfl rfl ?_
  repeat(first|refine run1p ?_|((with_reducible apply st_call);exact rfl;exact rfl;exact rfl;first|(exact m)|(exact cw)|(exact k_row (by omega) hv)|(exact k_row (by omega) hw))|((with_reducible apply st_callg);exact rfl;exact rfl;(first|exact rfl|assumption);exact rfl;exact rfl;exact rfl;first|(exact m)|(exact cw)|(exact k_row (by omega) hv)|(exact k_row (by omega) hw)))
  refine awp_loop (fun m' s => ∃ i, i ≤ g.n ∧ m' = g.n - i ∧ s = acc2S 17 18 (.rats i fun _ => .q 0) (.rats i fun u => .q (rowq vs u + rowq ws u)) [(13, .ptr 13 0 0), (14, .i (J : Int)), (15, .row true g.n fun i => .q (rowq vs i)), (16, .row true g.n fun i => .q (rowq ws i)), (19, .i (i : Int))] [(13, (1, fun _ => .ones 26 7 g.ft))]) g.n _ (acc2_start rfl rfl rfl rfl (by exact rfl) (by exact rfl) rfl (by decide) ?_ ?_) ⟨0, Nat.zero_le _, rfl, rfl⟩ ?_
  · exact eA
  · exact allh rfl (by decide) (bleo rfl fun _ _ => Le.id rfl) (fun i _ => g.ftok _ i) True.intro
  · rintro m' st ⟨i, hi, rfl, rfl⟩
    refine run0p ?_
    refine awp_if rfl (fun h => ?_) (fun h => ?_)
    · have hin : i < g.n := by omega
      have w1 := (rowq_wt vs i).le; have w2 := (rowq_wt ws i).le
      repeat(first|refine run1 ?_|((with_reducible apply st_call);exact rfl;exact rfl;exact rfl;first|(exact hs_zero)|(exact hs_add (p := rowq vs i) (q := rowq ws i) (by omega) (by omega)))|((with_reducible apply st_callg);exact rfl;exact rfl;(first|exact rfl|assumption);exact rfl;exact rfl;exact rfl;first|(exact hs_zero)|(exact hs_add (p := rowq vs i) (q := rowq ws i) (by omega) (by omega))))
      refine q_loop (m' := g.n - (i + 1)) (by omega) (acc2_next (a1 := 56) (a2 := 68) rfl rfl rfl rfl rfl rfl (glue_one rfl) (glue_one rfl) (by exact True.intro) (by exact True.intro) rfl (by decide) rfl rfl ?_ ?_) ⟨i + 1, by omega, rfl, rfl⟩
      · refine alle rfl (Le.ptr (s2_ne (by decide) (by decide))) rfl (alle rfl (Le.eq rfl rfl) True.intro (alle rfl (Le.eq rfl rfl) True.intro (alle rfl (Le.eq rfl rfl) True.intro (alle rfl (Le.eq rfl rfl) True.intro True.intro))))
      · exact allh rfl Nat.zero_lt_one g.le_ft (fun i _ => g.ftok _ i) True.intro
    · obtain rfl : i = g.n := by omega
      refine run3 ?_
      repeat(first|refine run4p ?_|((with_reducible apply st_call);exact rfl;exact rfl;exact rfl;first|(exact hs_int 1 (by decide) (by decide)))|((with_reducible apply st_callg);exact rfl;exact rfl;(first|exact rfl|assumption);exact rfl;exact rfl;exact rfl;first|(exact hs_int 1 (by decide) (by decide))))
      refine awp_imp ((imp_rowv 17 (fun i => .q (if i = J then 1 else 0)) rfl rfl rfl (fun i hi => ?_)).trans (imp_rowv 18 (fun i => .q (rowq vs i + rowq ws i)) rfl rfl rfl (fun _ _ => rfl))) ?_
      · by_cases e : i = J
        · subst e; exact (updN_same _ _ _).trans (by rw [if_pos rfl]; rfl)
        · exact (updN_ne _ _ e).trans (by rw [if_neg e])
      repeat(first|refine run1p ?_|((with_reducible apply st_call);exact rfl;exact rfl;exact rfl;first|(exact Has.ag (u' := g.f) (g7 rfl rfl rfl rfl rfl rfl rfl) c1)|(exact Has.ag (u' := g.f) (g7 rfl rfl rfl rfl rfl rfl rfl) ca)|(exact Has.ag (u' := g.f) (g7 rfl rfl rfl rfl rfl rfl rfl) cb)|(exact Has.ag (u' := g.f) (g7 rfl rfl rfl rfl rfl rfl rfl) cs))|((with_reducible apply st_callg);exact rfl;exact rfl;(first|exact rfl|assumption);exact rfl;exact rfl;exact rfl;first|(exact Has.ag (u' := g.f) (g7 rfl rfl rfl rfl rfl rfl rfl) c1)|(exact Has.ag (u' := g.f) (g7 rfl rfl rfl rfl rfl rfl rfl) ca)|(exact Has.ag (u' := g.f) (g7 rfl rfl rfl rfl rfl rfl rfl) cb)|(exact Has.ag (u' := g.f) (g7 rfl rfl rfl rfl rfl rfl rfl) cs)))
      refine awp_no rfl gN ?_
      refine run0p ?_
      refine awp_loop (fun m' s => ∃ r, r ≤ g.n ∧ m' = g.n - r ∧ s = stl [(13, .ptr 13 0 0), (14, .i (J : Int)), (20, .row true g.n fun i => .q (S g.n fun j => gec g i j * (if j = J then 1 else 0))), (22, .row true g.n fun i => .q (S g.n fun j => gec g i j * rowq vs j)), (24, .row true g.n fun i => .q (S g.n fun j => gec g i j * rowq ws j)), (26, .row true g.n fun i => .q (S g.n fun j => gec g i j * (rowq vs j + rowq ws j))), (28, .i (r : Int))] [(13, (1, fun _ => .ones 26 7 g.ft))]) g.n _ (imp_id ?_ ?_) ⟨0, Nat.zero_le _, rfl, rfl⟩ ?_
      · exact eA
      · exact allh rfl (by decide) (bleo rfl fun _ _ => Le.id rfl) (fun i _ => g.ftok _ i) True.intro
      rintro m' st ⟨r, hr, rfl, rfl⟩
      refine run0p ?_
      refine awp_if rfl (fun h1 => ?_) (fun h1 => ?_)
      · have hrn : r < g.n := by omega
        have w1 := app_wt o (v := fun j => if j = J then (1 : Rat) else 0) (L := 200) (by decide) he1 r
        have w2 := app_wt o (v := rowq vs) (L := 200) (by decide) hv1 r
        have w3 := app_wt o (v := rowq ws) (L := 200) (by decide) hw1 r
        have w4 := app_wt o (v := fun j => rowq vs j + rowq ws j) (L := 200) (by decide) hs1 r
        have w5 := gent_wt o hrn hJn
        have w6 := wt_add (S g.n fun j => gec g r j * rowq vs j) (S g.n fun j => gec g r j * rowq ws j)
        have x1 : (S g.n fun j => gec g r j * (if j = J then (1 : Rat) else 0)) = gent g r J := by
          rw [S_single hJn fun i _ hne => by rw [if_neg hne, Rat.mul_zero], if_pos rfl, Rat.mul_one, gec_in hrn hJn]
        have x2 : (S g.n fun j => gec g r j * (rowq vs j + rowq ws j)) = (S g.n fun j => gec g r j * rowq vs j) + S g.n fun j => gec g r j * rowq ws j := by
          rw [← S_add]; exact S_congr fun j _ => Rat.mul_add _ _ _
        have d1 := hs_same (p := S g.n fun j => gec g r j * (if j = J then (1 : Rat) else 0)) (q := gent g r J) (by omega) (by omega)
        have d2 := hs_same (p := S g.n fun j => gec g r j * (rowq vs j + rowq ws j)) (q := (S g.n fun j => gec g r j * rowq vs j) + S g.n fun j => gec g r j * rowq ws j) (by omega) (by omega)
        have d3 := hs_add (p := S g.n fun j => gec g r j * rowq vs j) (q := S g.n fun j => gec g r j * rowq ws j) (by omega) (by omega)
        rw [decide_eq_true x1] at d1
        rw [decide_eq_true x2] at d2
        repeat(first|refine run1p ?_|((with_reducible apply st_call);exact rfl;exact rfl;exact rfl;first|(exact Has.ag (u' := g.f) (g7 rfl rfl rfl rfl rfl rfl rfl) (r5_entry (g := g) o hrn hJn))|(exact d1)|(exact d2)|(exact d3))|((with_reducible apply st_callg);exact rfl;exact rfl;(first|exact rfl|assumption);exact rfl;exact rfl;exact rfl;first|(exact Has.ag (u' := g.f) (g7 rfl rfl rfl rfl rfl rfl rfl) (r5_entry (g := g) o hrn hJn))|(exact d1)|(exact d2)|(exact d3)))
        refine awp_no rfl rfl ?_
        refine run0p ?_
        refine q_loop ?_ (imp_id ?_ ?_) ⟨r + 1, ?_, rfl, rfl⟩
        · omega
        · exact eA
        · exact allh rfl (by decide) (bleo rfl fun _ _ => Le.id rfl) (fun i _ => g.ftok _ i) True.intro
        · omega
      · refine run0p ?_
        exact ⟨.inr rfl, _, Imp.refl _, .one (.tmp rfl)⟩
end Go.Proofs.YtdnmoggifjlbiaaGreat.AM
