/- Joined texts, 24: F2. -/
import Derived.Test.YtggicfmbdmjhkaaJLawNttKnown22
import Derived.Test.YtggicfmbdmjhkaaJLawNttKnown23
set_option linter.unusedVariables false
set_option linter.unusedSimpArgs false
-- Written by pp.py, a program of this repository, out of the translation. Lean checks it.
namespace Go.Proofs.Ytggicfmbdmjhkaa.F
open Go.RowKit Go.Proofs.YtggicfmbdmjhkaaW.PrintWords Go.Proofs.YtggicfmbdmjhkaaW.PrintLast Go.Proofs.YtggicfmbdmjhkaaW.PrintMore
attribute [local go_sem] max2_int min2_int max_two min_two max_three min_three max_four min_four   -- for this text's walks alone
set_option linter.unusedVariables false
set_option linter.unusedSimpArgs false
/-! ### ntt_cross: function 27 -/
theorem ntt_plus_still (a0 a1 r : Int) (w : World) (h : ntt_field_plus.f a0 a1 = some r) : Calls Try.prog 49 #[.int .u32 a0, .int .u32 a1] w fun e w' => e = .returned (.int .u32 r) ∧ w' = w := by
  have H : some ((Int.tmod (IntKind.u64.wrap ((IntKind.u64.wrap (a0)) + (IntKind.u64.wrap (a1)))) 998244353) % 4294967296) = some r := h
  clear h
  obtain rfl := Option.some.inj H
  go_enter Try.func49, Try.ntmps49
  go_wp2
  go_ret
  exact ⟨rfl, rfl⟩
theorem ntt_less_still (a0 a1 r : Int) (w : World) (h : ntt_field_less.f a0 a1 = some r) : Calls Try.prog 50 #[.int .u32 a0, .int .u32 a1] w fun e w' => e = .returned (.int .u32 r) ∧ w' = w := by
  have H : ((ntt_field_plus.f a0 ((998244353 - (Int.tmod a1 998244353)) % 4294967296)).bind fun t117 => (some t117)) = some r := h
  clear h
  replace H := Option.bind_eq_some_iff.mp H
  obtain ⟨t104, A20, H⟩ := H
  have A2 := Aside0.mk A20
  clear A20
  obtain rfl := Option.some.inj H
  go_enter Try.func50, Try.ntmps50
  go_wp2_with ((with_reducible refine gate_callee (f := 49) rfl ?_); refine goesL_ (some 9) rfl rfl Try.func49 (by kernel_rfl) rfl #[.int .u32 a0, .int .u32 ((998244353 - (Int.tmod a1 998244353)) % 4294967296)] rfl (by (try simp only [List.map_toArray, List.map_cons, List.map_nil]); first | done | rfl) ?_; (with_reducible refine (ntt_plus_still a0 _ t104 _ A2.out).mono ?_); rintro e w' ⟨rfl, rfl⟩; refine ⟨_, rfl, ?_⟩)
  go_ret
  exact ⟨rfl, rfl⟩
/-- The step on two halves, from the i-th pair on. -/
def crossGo (off h : Nat) (w : Int) : Nat → List Int → Nat → Int → List Int
  | 0, xs, _, _ => xs
  | k + 1, xs, i, a =>
    let p := xs.getD (off + i) 0
    let q := (ntt_field_times.f (xs.getD (off + h + i) 0) a).getD 0
    crossGo off h w k ((xs.set (off + i) ((ntt_field_plus.f p q).getD 0)).set (off + h + i) ((ntt_field_less.f p q).getD 0)) (i + 1) ((ntt_field_times.f a w).getD 0)
/-- A block that begins with these numbers. -/
def RowAt (W : World) (g dd : Nat) (xs : List Int) : Prop := ∃ tail : List Value, tail.length = dd ∧ W.heap[g]? = some (.cells ((xs.map (Value.int .u32)) ++ tail).toArray 56 (0, 0))
theorem RowAt.cell {W : World} {g dd : Nat} {xs : List Int} (h : RowAt W g dd xs) (i : Nat) (hi : i < xs.length) : W.cell? ⟨g, i, none⟩ = some (.int .u32 (xs.getD i 0)) := by
  obtain ⟨tail, ht, hb⟩ := h
  rw [blk_cell hb]
  simp [hi, List.getElem?_append]
theorem RowAt.free {W : World} {g dd : Nat} {xs : List Int} (h : RowAt W g dd xs) (i : Nat) : W.frozen? ⟨g, i, none⟩ = false := by
  obtain ⟨tail, ht, hb⟩ := h
  exact blk_frozen hb i
theorem RowAt.set {W : World} {g dd : Nat} {xs : List Int} (h : RowAt W g dd xs) (i : Nat) (hi : i < xs.length) (v : Int) : RowAt (W.setCell ⟨g, i, none⟩ (.int .u32 v)) g dd (xs.set i v) := by
  obtain ⟨tail, ht, hb⟩ := h
  refine ⟨tail, ht, ?_⟩
  rw [blk_set hb]
  congr 2
  apply Array.ext'
  simp [List.set_append, hi, List.map_set]
theorem RowAt.far {W : World} {g dd : Nat} {xs : List Int} (h : RowAt W g dd xs) {p : Addr} (hp : g ≠ p.block) (u : Value) : RowAt (W.setCell p u) g dd xs := by
  obtain ⟨tail, ht, hb⟩ := h
  exact ⟨tail, ht, blk_far hb hp u⟩
theorem RowAt.lt {W : World} {g dd : Nat} {xs : List Int} (h : RowAt W g dd xs) : g < W.heap.size := by
  obtain ⟨tail, ht, hb⟩ := h
  exact blk_lt hb
theorem RowAt.alloc {W : World} {g dd : Nat} {xs : List Int} (h : RowAt W g dd xs) (o : Obj) : RowAt (W.alloc o) g dd xs := by
  have hl := h.lt
  obtain ⟨tail, ht, hb⟩ := h
  exact ⟨tail, ht, (Below.heap_alloc _ _ _ hl).trans hb⟩
theorem RowAt.keep {W W1 : World} {g dd : Nat} {xs : List Int} (h : RowAt W g dd xs) (he : W1.heap[g]? = W.heap[g]?) : RowAt W1 g dd xs := by
  obtain ⟨tail, ht, hb⟩ := h
  exact ⟨tail, ht, he.trans hb⟩
set_option maxHeartbeats 8000000 in
set_option maxRecDepth 100000 in
theorem ntt_cross.calls (B g dd off h cap : Nat) (a : Int) (xs : List Int) (w : World) (hrow : RowAt w g dd xs) (h0 : 0 < h) (hseg : off + 2 * h ≤ xs.length) (hcap : 2 * h < cap ∨ 2 * h = cap) (hB : B ≤ g) (hlim : xs.length ≤ 4096) :
    Calls Try.prog 27 #[.slice (some ⟨g, off, none⟩) (2 * h) cap, .int .u32 a] w fun e w' => e = .returned (.tuple #[]) ∧ RowAt w' g dd (crossGo off h a h xs 0 1) ∧ Below B w w' ∧ KeepBut w w' g none := by
  have e2 : 2 * h - h = h := by omega
  go_enter Try.func27, Try.ntmps27
  go_wp2
  go_region
  go_wp2
  go_loopw [5, 23] (fun v5 v23 wr => ∃ (i : Nat) (at_ : Int) (ys : List Int), v23 = .int .i64 i ∧ v5 = .int .u32 at_ ∧ i ≤ h ∧ Aside0 (ys.length = xs.length ∧ crossGo off h a (h - i) ys i at_ = crossGo off h a h xs 0 1) ∧ Aside0 (RowAt wr g dd ys) ∧ Aside0 (wr.heap[w.heap.size]? = some (.cells #[.slice (some ⟨g, off, none⟩) h cap, .slice (some ⟨g, off + h, none⟩) h (cap - h)] 91 (0, 0))) ∧ Aside0 (Below B w wr ∧ KeepBut w wr g none)) (fun _ i _ => h - (intOf i).toNat)
  case atStart => exact ⟨0, 1, xs, rfl, rfl, by omega, ⟨rfl, rfl⟩, ⟨hrow.alloc _⟩, ⟨heap_alloc_new w _⟩, ⟨((Below.refl B w).alloc (by have := hrow.lt; omega) _).drew, keep_alloc (KeepBut.refl w g none) _⟩⟩
  case round =>
    obtain ⟨i, at_, ys, rfl, rfl, hi, HI, HR, HX, HB⟩ := hrel
    by_cases hlt : i < h
    · have hgs := hrow.lt
      have c0 : wr.cell? ⟨w.heap.size, 0, none⟩ = some (.slice (some ⟨g, off, none⟩) h cap) := (blk_cell HX.out 0).trans rfl
      have c1 : wr.cell? ⟨w.heap.size, 1, none⟩ = some (.slice (some ⟨g, off + h, none⟩) h (cap - h)) := (blk_cell HX.out 1).trans rfl
      have f0 := HR.out.cell (off + i) (by rw [HI.out.1]; omega)
      have f1 := HR.out.cell (off + h + i) (by rw [HI.out.1]; omega)
      obtain ⟨p, hp⟩ : ∃ p, ys.getD (off + i) 0 = p := ⟨_, rfl⟩
      obtain ⟨q, hq⟩ : ∃ q, ys.getD (off + h + i) 0 = q := ⟨_, rfl⟩
      obtain ⟨t, ht⟩ : ∃ t, ntt_field_times.f q at_ = some t := ⟨_, rfl⟩
      obtain ⟨s, hs⟩ : ∃ s, ntt_field_plus.f p t = some s := ⟨_, rfl⟩
      obtain ⟨d, hd⟩ : ∃ d, ntt_field_less.f p t = some d := ⟨_, rfl⟩
      obtain ⟨n, hn⟩ : ∃ n, ntt_field_times.f at_ a = some n := ⟨_, rfl⟩
      rw [hp] at f0
      rw [hq] at f1
      have HV := Aside0.mk (And.intro hp hq)
      have HT := Aside0.mk ht
      have HS := Aside0.mk hs
      have HD := Aside0.mk hd
      have HN := Aside0.mk hn
      clear hp hq ht hs hd hn
      go_wp2
      refine wp_region_still_lit (by kernel_rfl) (by kernel_rfl) ?_
      repeat still_step
      still_call (ntt_times_still _ _ _ _ HT.out)
      repeat still_step
      refine wpStill_nil ?_
      change Exit.then _ _ _ _ wr.drew
      have HR2 := Aside0.mk (show RowAt wr.drew g dd ys from HR.out)
      have HX2 := Aside0.mk (show wr.drew.heap[w.heap.size]? = some (.cells #[.slice (some ⟨g, off, none⟩) h cap, .slice (some ⟨g, off + h, none⟩) h (cap - h)] 91 (0, 0)) from HX.out)
      have HB2 := Aside0.mk (show Below B w wr.drew ∧ KeepBut w wr.drew g none from ⟨HB.out.1.drew, HB.out.2⟩)
      clear HR HX HB c0 c1 f0 f1
      generalize wr.drew = w2 at HR2 HX2 HB2 ⊢
      clear wr
      have c0 : w2.cell? ⟨w.heap.size, 0, none⟩ = some (.slice (some ⟨g, off, none⟩) h cap) := (blk_cell HX2.out 0).trans rfl
      have c1 : w2.cell? ⟨w.heap.size, 1, none⟩ = some (.slice (some ⟨g, off + h, none⟩) h (cap - h)) := (blk_cell HX2.out 1).trans rfl
      have f0 : w2.cell? ⟨g, off + i, none⟩ = some (.int .u32 p) := by rw [← HV.out.1]; exact HR2.out.cell (off + i) (by rw [HI.out.1]; omega)
      have z0 : w2.frozen? ⟨g, off + i, none⟩ = false := HR2.out.free _
      have f1 : (w2.setCell ⟨g, off + i, none⟩ (.int .u32 s)).cell? ⟨g, off + h + i, none⟩ = some (.int .u32 ((ys.set (off + i) s).getD (off + h + i) 0)) := (HR2.out.set (off + i) (by rw [HI.out.1]; omega) s).cell _ (by rw [List.length_set, HI.out.1]; omega)
      have z1 : (w2.setCell ⟨g, off + i, none⟩ (.int .u32 s)).frozen? ⟨g, off + h + i, none⟩ = false := (HR2.out.set (off + i) (by rw [HI.out.1]; omega) s).free _
      obtain ⟨q2, hq2⟩ : ∃ q2, (ys.set (off + i) s).getD (off + h + i) 0 = q2 := ⟨_, rfl⟩
      rw [hq2] at f1
      clear hq2
      obtain ⟨zs, hzs⟩ : ∃ zs, zs = (ys.set (off + i) s).set (off + h + i) d := ⟨_, rfl⟩
      have HI3 := Aside0.mk (show zs.length = xs.length ∧ crossGo off h a (h - (i + 1)) zs (i + 1) n = crossGo off h a h xs 0 1 by
        have hl := HI.out.1
        have hg := HI.out.2
        rw [show h - i = (h - (i + 1)) + 1 by omega] at hg
        simp only [crossGo] at hg
        rw [HV.out.1, HV.out.2, HT.out, HN.out] at hg
        simp only [Option.getD_some] at hg
        rw [HS.out, HD.out] at hg
        simp only [Option.getD_some] at hg
        rw [hzs]
        exact ⟨by rw [List.length_set, List.length_set, hl], hg⟩)
      have HR3 := Aside0.mk (show RowAt ((w2.setCell ⟨g, off + i, none⟩ (.int .u32 s)).setCell ⟨g, off + h + i, none⟩ (.int .u32 d)) g dd zs by
        rw [hzs]; exact (HR2.out.set (off + i) (by rw [HI.out.1]; omega) s).set _ (by rw [List.length_set, HI.out.1]; omega) d)
      have HX3 := Aside0.mk (show ((w2.setCell ⟨g, off + i, none⟩ (.int .u32 s)).setCell ⟨g, off + h + i, none⟩ (.int .u32 d)).heap[w.heap.size]? = some (.cells #[.slice (some ⟨g, off, none⟩) h cap, .slice (some ⟨g, off + h, none⟩) h (cap - h)] 91 (0, 0)) from blk_far (blk_far HX2.out (by show w.heap.size ≠ g; omega) _) (by show w.heap.size ≠ g; omega) _)
      have HB3 := Aside0.mk (show Below B w ((w2.setCell ⟨g, off + i, none⟩ (.int .u32 s)).setCell ⟨g, off + h + i, none⟩ (.int .u32 d)) ∧ KeepBut w ((w2.setCell ⟨g, off + i, none⟩ (.int .u32 s)).setCell ⟨g, off + h + i, none⟩ (.int .u32 d)) g none from
        ⟨(HB2.out.1.setCell hB _).setCell hB _, (HB2.out.2.set_ _ _).set_ _ _⟩)
      clear hzs HR2 HX2 HB2 HI HV HT
      go_wp2
      go_region_with (first | (go_at_call 49; refine (ntt_plus_still _ _ _ _ HS.out).mono ?_; rintro e w' ⟨rfl, rfl⟩) | (go_at_call 50; refine (ntt_less_still _ _ _ _ HD.out).mono ?_; rintro e w' ⟨rfl, rfl⟩))
      all_goals
        clear c0 c1 f0 f1 z0 z1
        go_wp2_with ((with_reducible refine gate_callee (f := 22) rfl ?_); refine goesL_ (some 54) rfl rfl Try.func22 (by kernel_rfl) rfl #[.int .u32 at_, .int .u32 a] rfl (by (try simp only [List.map_toArray, List.map_cons, List.map_nil]); first | done | rfl) ?_; (with_reducible refine (ntt_times_still _ _ _ _ HN.out).mono ?_); rintro e w' ⟨rfl, rfl⟩; refine ⟨_, rfl, ?_⟩)
        go_roundw
        case measure => simp [intOf]; omega
        case rel => exact ⟨i + 1, n, zs, by go_num, rfl, by omega, HI3, ⟨HR3.out⟩, ⟨HX3.out⟩, ⟨HB3.out.1.drew, HB3.out.2⟩⟩
    · have HK := Aside0.mk (show i = h by omega)
      go_wp2
      go_end0
      have hg := HI.out.2
      rw [HK.out, Nat.sub_self] at hg
      exact ⟨rfl, by rw [← hg]; exact HR.out, HB.out.1, HB.out.2⟩
theorem ntt_cross.calls2 (B g dd off h z cap : Nat) (a : Int) (xs : List Int) (w : World) (hrow : RowAt w g dd xs) (h0 : 0 < h) (hz : z = 2 * h) (hseg : off + z ≤ xs.length) (hcap : z ≤ cap) (hB : B ≤ g) (hlim : xs.length ≤ 4096) :
    Calls Try.prog 27 #[.slice (some ⟨g, off, none⟩) z cap, .int .u32 a] w fun e w' => e = .returned (.tuple #[]) ∧ RowAt w' g dd (crossGo off h a h xs 0 1) ∧ Below B w w' ∧ KeepBut w w' g none := by
  subst hz
  exact ntt_cross.calls B g dd off h cap a xs w hrow h0 hseg (by omega) hB hlim
/-! ### ntt_Transform: function 12 -/
def rootAt (back : Bool) (s : Nat) : Int := if back then rootV s else rootW s
/-- A step on all blocks, from a place on. -/
def trBlocks (h : Nat) (r : Int) : Nat → List Int → Nat → List Int
  | 0, xs, _ => xs
  | k + 1, xs, o => trBlocks h r k (crossGo o h r h xs 0 1) (o + 2 * h)
/-- All steps, from one on. -/
def trSteps (back : Bool) (n : Nat) : Nat → List Int → Nat → List Int
  | 0, xs, _ => xs
  | k + 1, xs, s => trSteps back n k (trBlocks (2 ^ s) (rootAt back (s + 1)) (n / 2 ^ (s + 1)) xs 0) (s + 1)
def trAll (back : Bool) (y : List Int) : List Int := trSteps back y.length (Nat.log2 y.length) y 0
theorem crossGo_length (off h : Nat) (w : Int) : ∀ (k : Nat) (xs : List Int) (i : Nat) (a : Int), (crossGo off h w k xs i a).length = xs.length
  | 0, _, _, _ => rfl
  | k + 1, xs, i, a => by
    simp only [crossGo]
    rw [crossGo_length off h w k, List.length_set, List.length_set]
theorem pow_small : ∀ n : Nat, n < 1025 → n ≠ 0 → Go.bits .and .i64 (n : Int) (wrap64 ((n : Int) - 1)) = 0 → n = 2 ^ Nat.log2 n ∧ Nat.log2 n ≤ 10 := by decide +kernel
theorem pow_of_bits (n : Nat) (h0 : n ≠ 0) (c5 : Go.bits .and .i64 (n : Int) (wrap64 ((n : Int) - 1)) = 0) : decide ((n : Int) > 1024) = false → ∃ m, m ≤ 10 ∧ n = 2 ^ m := by
  intro h
  have h1 : ¬ (n : Int) > 1024 := of_decide_eq_false h
  obtain ⟨h2, h3⟩ := pow_small n (by omega) h0 c5
  exact ⟨_, h3, h2⟩
theorem log2_pow : ∀ m, m < 11 → Nat.log2 (2 ^ m) = m := by decide +kernel
theorem root_plain : ∀ k, k < 23 → wrap64 (2 ^ k) = ((2 ^ k : Nat) : Int) := by decide +kernel
theorem root_at : ∀ (s : Nat) (hs : 1 ≤ s ∧ s ≤ 10) (b : Bool), (rootMap 23).atKey (rootKey s b) (.lit (.int .u32 0)) = .lit (.int .u32 (rootAt b s))
  | 1, _, false => by as_aux_lemma => kernel_rfl
  | 1, _, true => by as_aux_lemma => kernel_rfl
  | 2, _, false => by as_aux_lemma => kernel_rfl
  | 2, _, true => by as_aux_lemma => kernel_rfl
  | 3, _, false => by as_aux_lemma => kernel_rfl
  | 3, _, true => by as_aux_lemma => kernel_rfl
  | 4, _, false => by as_aux_lemma => kernel_rfl
  | 4, _, true => by as_aux_lemma => kernel_rfl
  | 5, _, false => by as_aux_lemma => kernel_rfl
  | 5, _, true => by as_aux_lemma => kernel_rfl
  | 6, _, false => by as_aux_lemma => kernel_rfl
  | 6, _, true => by as_aux_lemma => kernel_rfl
  | 7, _, false => by as_aux_lemma => kernel_rfl
  | 7, _, true => by as_aux_lemma => kernel_rfl
  | 8, _, false => by as_aux_lemma => kernel_rfl
  | 8, _, true => by as_aux_lemma => kernel_rfl
  | 9, _, false => by as_aux_lemma => kernel_rfl
  | 9, _, true => by as_aux_lemma => kernel_rfl
  | 10, _, false => by as_aux_lemma => kernel_rfl
  | 10, _, true => by as_aux_lemma => kernel_rfl
  | 0, h, _ => absurd h.1 (by omega)
  | s + 11, h, _ => absurd h.2 (by omega)
theorem root_zero (w : World) : (zeroValue 56).run Try.prog w = .ok (.int .u32 0) w := by kernel_rfl
theorem turned_l0_length : ∀ (k : Nat) (x3 : List Int) (x4 : Int) (x15 : List Int) (x16 x17 : Int) (r : List Int), ntt_turned.l0 k x3 x4 x15 x16 x17 = some r → r.length = x3.length
  | 0, _, _, _, _, _, _, h => by simp [ntt_turned.l0] at h
  | k + 1, x3, x4, x15, x16, x17, r, h => by
    simp only [ntt_turned.l0] at h
    split at h
    · split at h
      · split at h
        · obtain ⟨t, _, h⟩ := Option.bind_eq_some_iff.mp h
          split at h
          · split at h
            · split at h
              · have := turned_l0_length k _ _ _ _ _ _ h
                rw [this, List.length_set]
              · cases h
            · cases h
          · cases h
        · cases h
      · cases h
    · exact (congrArg List.length (Option.some.inj h)).symm
theorem turned_length (k : Nat) (l r : List Int) (h : ntt_turned.f k l = some r) : r.length = l.length := by
  unfold ntt_turned.f at h
  split at h
  · split at h
    · obtain ⟨t, _, h⟩ := Option.bind_eq_some_iff.mp h
      rw [turned_l0_length _ _ _ _ _ _ _ h, List.length_replicate]
      simp
    · cases h
  · cases h
/-- A row of the call's own, of numbers of the field: its block. -/
theorem rowAt_of_R {W : World} {base : Nat} {ok : Nat → Prop} {v : Value} {xs : List Int} (h : Kd.R (Kd.int .u32) 56 W base ok v xs) (hne : xs ≠ []) :
    ∃ g dd, v = .slice (some ⟨g, 0, none⟩) xs.length (xs.length + dd) ∧ base ≤ g ∧ xs.length + dd ≤ maxLen ∧ ok g ∧ RowAt W g dd xs := by
  have ho := Kd.own_of_R h
  rcases ho.2 with ⟨_, h0⟩ | ⟨g, cap, cur, hv, hb, hh, hn, hc, hs, ht⟩
  · exact absurd (List.length_eq_zero_iff.mp h0) hne
  · have hsz : cur.toList.length = cap := by rw [Array.length_toList, hs, Nat.mul_one]
    refine ⟨g, cap - xs.length, ?_, hb, by omega, h.1 g (by rw [hv]; rfl), cur.toList.drop xs.length, by rw [List.length_drop, hsz], ?_⟩
    · rw [hv]; congr 1; omega
    · rw [hh]
      congr 2
      apply Array.ext'
      have := List.take_append_drop (xs.length * 1) cur.toList
      rw [ht, Nat.mul_one] at this
      exact this.symm
theorem ownsMap_keep {P : Program} {k : TypeId} {R : Value → Option (DataW Unit × List MemPlace)} {w w1 : World} {b n g dd : Nat} {D : DataW Unit} {xs : List Int} (h : w.ownsMap P k R b n D) (hr : RowAt w g dd xs) (hk : KeepBut w w1 g none) : w1.ownsMap P k R b n D := by
  have hlt := h.lt
  obtain ⟨es, clock, hb, F, hs, hD⟩ := h
  refine ⟨es, clock, ?_, F, hs, hD⟩
  rw [hk.2 b hlt ?_ (by simp)]
  · exact hb
  · rintro rfl
    obtain ⟨tail, _, hh⟩ := hr
    rw [hb] at hh
    cases hh
theorem R_of_rowAt {W : World} {base g dd : Nat} {ok : Nat → Prop} {xs : List Int} {n : Nat} (h : RowAt W g dd xs) (hb : base ≤ g) (hc : xs.length + dd ≤ maxLen) (hok : ok g) (hn : n = xs.length) :
    Kd.R (Kd.int .u32) 56 W base ok (.slice (some ⟨g, 0, none⟩) n (xs.length + dd)) xs := by
  subst hn
  obtain ⟨tail, ht, hh⟩ := h
  refine Kd.R_of_own ⟨by simp [encs], .inr ⟨g, _, _, rfl, hb, hh, by omega, hc, by simp [ht], by simp [encs]⟩⟩ ?_
  intro k hk
  simp [Value.ownBlock] at hk
  exact hk ▸ hok
mutual
def ntt_Transform.j0 : Nat → List Int → Bool → Int → Bool → Option (List Int × Int)
  | 0, _, _, _, _ => none
  | k + 1, x0, x1, x6, x17 => if x17 = true then (some (([] : List Int), 3)) else ((ntt_whole.f k x0).bind fun t122 => (if t122 = true then ((ntt_turned.f k x0).bind fun t123 => ((some (trAll x1 t123)).bind fun t124 => (if x1 = true then ((ntt_field_inverse.f k ((x6) % 4294967296)).bind fun t126 => (ntt_Transform.j1 k x6 t124 t126)) else (ntt_Transform.j1 k x6 t124 1)))) else (some (([] : List Int), 1))))
def ntt_Transform.j1 : Nat → Int → List Int → Int → Option (List Int × Int)
  | 0, _, _, _ => none
  | k + 1, x6, x7, x12 => if 0 ≤ x6 then (if (x6 : Int).toNat ≤ 70368744177664 then ((some (List.replicate (x6 : Int).toNat 0 : List Int)).bind fun y127 => (ntt_Transform.l0 k x7 x12 y127 (y127.length : Int) 0)) else (none)) else (none)
def ntt_Transform.l0 : Nat → List Int → Int → List Int → Int → Int → Option (List Int × Int)
  | 0, _, _, _, _, _ => none
  | k + 1, x7, x12, x13, x69, x70 => if x70 < x69 then (if 0 ≤ x70 then (if x70 < (x7.length : Int) then ((ntt_field_times.f (rd x7 x70) x12).bind fun t131 => (if x70 < (x13.length : Int) then (ntt_Transform.l0 k x7 x12 (x13.set (x70 : Int).toNat t131) x69 (wrap64 (x70 + 1))) else (none))) else (none)) else (none)) else (some (x13, 0))
end
def ntt_Transform.f (k : Nat) (l0 : List Int) (a1 : Bool) : Option (List Int × Int) := if (l0.length : Int) = 0 then (ntt_Transform.j0 k l0 a1 (l0.length : Int) true) else (if (Go.bits .and .i64 (l0.length : Int) (wrap64 ((l0.length : Int) - 1))) = 0 then (ntt_Transform.j0 k l0 a1 (l0.length : Int) (decide ((l0.length : Int) > 1024))) else (ntt_Transform.j0 k l0 a1 (l0.length : Int) true))
theorem ntt_Transform.mono_l : ∀ k, (∀ y0 y1 y2 y3, LeO (ntt_Transform.j0 k y0 y1 y2 y3) (ntt_Transform.j0 (k + 1) y0 y1 y2 y3)) ∧ (∀ y0 y1 y2, LeO (ntt_Transform.j1 k y0 y1 y2) (ntt_Transform.j1 (k + 1) y0 y1 y2)) ∧ (∀ y0 y1 y2 y3 y4, LeO (ntt_Transform.l0 k y0 y1 y2 y3 y4) (ntt_Transform.l0 (k + 1) y0 y1 y2 y3 y4))
  | 0 => ⟨fun _ _ _ _ r h => by simp [ntt_Transform.j0] at h, fun _ _ _ r h => by simp [ntt_Transform.j1] at h, fun _ _ _ _ _ r h => by simp [ntt_Transform.l0] at h⟩
  | k + 1 => by
    obtain ⟨ih0, ih1, ih2⟩ := ntt_Transform.mono_l k
    refine ⟨?_, ?_, ?_⟩
    · intro y0 y1 y2 y3
      unfold ntt_Transform.j0
      repeat' first
      | (with_reducible exact ih0 _ _ _ _)
      | (with_reducible exact ih1 _ _ _)
      | (with_reducible exact ih2 _ _ _ _ _)
      | (with_reducible exact ntt_field_inverse.mono _ _)
      | (with_reducible exact ntt_turned.mono _ _)
      | (with_reducible exact ntt_whole.mono _ _)
      | (with_reducible exact LeO.refl _)
      | (with_reducible exact LeO.none _)
      | (with_reducible refine LeO.ite ?_ ?_)
      | (with_reducible refine LeO.bind ?_ (fun _ => ?_))
      | exact ih0 _ _ _ _
      | exact ih1 _ _ _
      | exact ih2 _ _ _ _ _
      | exact ntt_field_inverse.mono _ _
      | exact ntt_turned.mono _ _
      | exact ntt_whole.mono _ _
      | exact LeO.none _
      | refine LeO.ite ?_ ?_
      | refine LeO.bind ?_ (fun _ => ?_)
    · intro y0 y1 y2
      unfold ntt_Transform.j1
      repeat' first
      | (with_reducible exact ih0 _ _ _ _)
      | (with_reducible exact ih1 _ _ _)
      | (with_reducible exact ih2 _ _ _ _ _)
      | (with_reducible exact ntt_field_inverse.mono _ _)
      | (with_reducible exact ntt_turned.mono _ _)
      | (with_reducible exact ntt_whole.mono _ _)
      | (with_reducible exact LeO.refl _)
      | (with_reducible exact LeO.none _)
      | (with_reducible refine LeO.ite ?_ ?_)
      | (with_reducible refine LeO.bind ?_ (fun _ => ?_))
      | exact ih0 _ _ _ _
      | exact ih1 _ _ _
      | exact ih2 _ _ _ _ _
      | exact ntt_field_inverse.mono _ _
      | exact ntt_turned.mono _ _
      | exact ntt_whole.mono _ _
      | exact LeO.none _
      | refine LeO.ite ?_ ?_
      | refine LeO.bind ?_ (fun _ => ?_)
    · intro y0 y1 y2 y3 y4
      unfold ntt_Transform.l0
      repeat' first
      | (with_reducible exact ih0 _ _ _ _)
      | (with_reducible exact ih1 _ _ _)
      | (with_reducible exact ih2 _ _ _ _ _)
      | (with_reducible exact ntt_field_inverse.mono _ _)
      | (with_reducible exact ntt_turned.mono _ _)
      | (with_reducible exact ntt_whole.mono _ _)
      | (with_reducible exact LeO.refl _)
      | (with_reducible exact LeO.none _)
      | (with_reducible refine LeO.ite ?_ ?_)
      | (with_reducible refine LeO.bind ?_ (fun _ => ?_))
      | exact ih0 _ _ _ _
      | exact ih1 _ _ _
      | exact ih2 _ _ _ _ _
      | exact ntt_field_inverse.mono _ _
      | exact ntt_turned.mono _ _
      | exact ntt_whole.mono _ _
      | exact LeO.none _
      | refine LeO.ite ?_ ?_
      | refine LeO.bind ?_ (fun _ => ?_)
theorem ntt_Transform.mono : ∀ a0 a1 k, LeO (ntt_Transform.f k a0 a1) (ntt_Transform.f (k + 1) a0 a1) := by
  intro a0 a1 k
  obtain ⟨ih0, ih1, ih2⟩ := ntt_Transform.mono_l k
  unfold ntt_Transform.f
  repeat' first
      | (with_reducible exact ih0 _ _ _ _)
      | (with_reducible exact ih1 _ _ _)
      | (with_reducible exact ih2 _ _ _ _ _)
      | (with_reducible exact ntt_field_inverse.mono _ _)
      | (with_reducible exact ntt_turned.mono _ _)
      | (with_reducible exact ntt_whole.mono _ _)
      | (with_reducible exact LeO.refl _)
      | (with_reducible exact LeO.none _)
      | (with_reducible refine LeO.ite ?_ ?_)
      | (with_reducible refine LeO.bind ?_ (fun _ => ?_))
      | exact ih0 _ _ _ _
      | exact ih1 _ _ _
      | exact ih2 _ _ _ _ _
      | exact ntt_field_inverse.mono _ _
      | exact ntt_turned.mono _ _
      | exact ntt_whole.mono _ _
      | exact LeO.none _
      | refine LeO.ite ?_ ?_
      | refine LeO.bind ?_ (fun _ => ?_)
set_option maxHeartbeats 8000000 in
set_option maxRecDepth 100000 in
theorem ntt_Transform.calls (k : Nat) (A0 : Option Addr) (c0 : Nat) (l0 : List Int) (a1 : Bool) (r1 : List Int) (r2 : Int) (w : World) (hr0 : Kd.C (Kd.int .u32) w A0 l0.length l0) (hc0 : l0.length ≤ c0) (h : ntt_Transform.f k l0 a1 = some (r1, r2)) :
    Calls Try.prog 12 #[.slice A0 l0.length c0, .bool a1] w fun e w' => ∃ v0_ : Value, e = .returned (.tuple #[v0_, .int .i64 r2]) ∧ Kd.R (Kd.int .u32) 36 w' w.heap.size (fun _ => True) v0_ r1 ∧ Below w.heap.size w w' := by
  have HR0 := Aside0.mk hr0
  have HC0 := Aside0.mk hc0
  clear hr0 hc0
  have HB := Aside0.mk (Below.refl w.heap.size w)
  have H : (if (l0.length : Int) = 0 then (ntt_Transform.j0 k l0 a1 (l0.length : Int) true) else (if (Go.bits .and .i64 (l0.length : Int) (wrap64 ((l0.length : Int) - 1))) = 0 then (ntt_Transform.j0 k l0 a1 (l0.length : Int) (decide ((l0.length : Int) > 1024))) else (ntt_Transform.j0 k l0 a1 (l0.length : Int) true))) = some (r1, r2) := h
  clear h
  have HC3 := Aside0.mk H
  clear H
  go_enter Try.func12, Try.ntmps12
  go_upto_region 2 with (fail)
  go_cut [17] (fun v17 wc => ∃ (kq : Nat) (x17_2 : Bool), v17 = .bool x17_2 ∧ Aside0 (ntt_Transform.j0 kq l0 a1 (l0.length : Int) x17_2 = some (r1, r2)) ∧ Aside0 (kq ≤ k) ∧ Aside0 (x17_2 = false → ∃ m, m ≤ 10 ∧ l0.length = 2 ^ m) ∧ Aside0 (Below w.heap.size w wc))
  case first =>
    have H := HC3.out
    clear HC3
    by_cases c4 : (l0.length : Int) = 0
    · rw [if_pos c4] at H
      have c4b0 : ((l0.length : Int) == 0) = true := beq_iff_eq.mpr c4
      have c4b1 : ((l0.length : Int) != 0) = false := bne_eq_false_iff_eq.mpr c4
      clear c4
      (first | rw [c4b0] | (simp only [i64_w, i32_w]; rw [c4b0]) | skip)
      have H' := Aside0.mk H
      clear H
      go_wp2
      go_meet
      case rel => exact ⟨_, (true), (by first | rfl | (simp; done) | (simp [*]; done)), H', ⟨by first | omega | exact Nat.le_refl _⟩, ⟨fun h_ => by cases h_⟩, ⟨by repeat (first | (with_reducible first | exact HB.out | apply below_alloc | apply pw_below_drewN | apply below_drew1) | exact HB.out)⟩⟩
    · rw [if_neg c4] at H
      have c4b0 : ((l0.length : Int) == 0) = false := beq_eq_false_iff_ne.mpr c4
      have c4b1 : ((l0.length : Int) != 0) = true := bne_iff_ne.mpr c4
      have c4b2 : ¬ (l0 = []) := fun h_ => c4 (by rw [h_]; rfl)
      (first | rw [c4b0] | (simp only [i64_w, i32_w]; rw [c4b0]) | skip)
      by_cases c5 : (Go.bits .and .i64 (l0.length : Int) (wrap64 ((l0.length : Int) - 1))) = 0
      · rw [if_pos c5] at H
        have HPW := Aside0.mk (pow_of_bits l0.length (by omega) c5)
        have c5b0 : ((Go.bits .and .i64 (l0.length : Int) (wrap64 ((l0.length : Int) - 1))) == 0) = true := beq_iff_eq.mpr c5
        have c5b1 : ((Go.bits .and .i64 (l0.length : Int) (wrap64 ((l0.length : Int) - 1))) != 0) = false := bne_eq_false_iff_eq.mpr c5
        clear c5
        have H' := Aside0.mk H
        clear H
        go_wp2
        go_meet
        case rel => exact ⟨_, (decide ((l0.length : Int) > 1024)), (by first | rfl | (simp; done) | (simp [*]; done)), H', ⟨by first | omega | exact Nat.le_refl _⟩, HPW, ⟨by repeat (first | (with_reducible first | exact HB.out | apply below_alloc | apply pw_below_drewN | apply below_drew1) | exact HB.out)⟩⟩
      · rw [if_neg c5] at H
        have c5b0 : ((Go.bits .and .i64 (l0.length : Int) (wrap64 ((l0.length : Int) - 1))) == 0) = false := beq_eq_false_iff_ne.mpr c5
        have c5b1 : ((Go.bits .and .i64 (l0.length : Int) (wrap64 ((l0.length : Int) - 1))) != 0) = true := bne_iff_ne.mpr c5
        have H' := Aside0.mk H
        clear H
        go_wp2
        go_meet
        case rel => exact ⟨_, (true), (by first | rfl | (simp; done) | (simp [*]; done)), H', ⟨by first | omega | exact Nat.le_refl _⟩, ⟨fun h_ => by cases h_⟩, ⟨by repeat (first | (with_reducible first | exact HB.out | apply below_alloc | apply pw_below_drewN | apply below_drew1) | exact HB.out)⟩⟩
  case rest =>
    clear HC3
    try clear c1
    try clear p2
    try clear c4
    try clear c4b0
    try clear c4b1
    try clear c4b2
    try clear c5
    try clear c5b0
    try clear c5b1
    obtain ⟨kq, x17_2, rfl, HA, HJ2, HPW, HB⟩ := hcut
    cases kq with
    | zero => exact absurd HA.out (by simp [ntt_Transform.j0])
    | succ kj2 =>
      have H := HA.out
      clear HA
      simp only [ntt_Transform.j0] at H
      by_cases c6 : x17_2 = true
      · subst c6
        have H1 : (some (([] : List Int), 3)) = some (r1, r2) := by rw [if_pos rfl] at H; exact H
        clear H
        have H := H1
        clear H1
        simp only [Option.some.injEq, Prod.mk.injEq] at H
        obtain ⟨rfl, rfl⟩ := H
        go_wp2
        go_ret2
        exact ⟨_, by first | rfl | (simp [errW_none, errW_some] <;> rfl) | (simp [*, errW_none, errW_some] <;> rfl), by first | exact Kd.R_nil _ _ _ _ _ | exact Kd.N_nil _ _ _ _ _ | exact Kd.V_nil _ _ _ _ _ | exact Kd.Q_nil _ _ _ _ _ | exact Kd.S_nil _ _ _ _ _, by repeat (first | (with_reducible first | exact HB.out | apply below_alloc | apply pw_below_drewN | apply below_drew1) | exact HB.out)⟩
      · replace c6 := Bool.eq_false_iff.mpr c6
        subst c6
        have H1 : ((ntt_whole.f kj2 l0).bind fun t122 => (if t122 = true then ((ntt_turned.f kj2 l0).bind fun t123 => ((some (trAll a1 t123)).bind fun t124 => (if a1 = true then ((ntt_field_inverse.f kj2 (((l0.length : Int)) % 4294967296)).bind fun t126 => (ntt_Transform.j1 kj2 (l0.length : Int) t124 t126)) else (ntt_Transform.j1 kj2 (l0.length : Int) t124 1)))) else (some (([] : List Int), 1)))) = some (r1, r2) := by rw [if_neg (show ¬ (false = true) by decide)] at H; exact H
        clear H
        have H := H1
        clear H1
        replace H := Option.bind_eq_some_iff.mp H
        obtain ⟨t122, A70, H⟩ := H
        replace H : (if t122 = true then ((ntt_turned.f kj2 l0).bind fun t123 => ((some (trAll a1 t123)).bind fun t124 => (if a1 = true then ((ntt_field_inverse.f kj2 (((l0.length : Int)) % 4294967296)).bind fun t126 => (ntt_Transform.j1 kj2 (l0.length : Int) t124 t126)) else (ntt_Transform.j1 kj2 (l0.length : Int) t124 1)))) else (some (([] : List Int), 1))) = some (r1, r2) := H
        have A7 := Aside0.mk A70
        clear A70
        by_cases c8 : t122 = true
        · subst c8
          have H1 : ((ntt_turned.f kj2 l0).bind fun t123 => ((some (trAll a1 t123)).bind fun t124 => (if a1 = true then ((ntt_field_inverse.f kj2 (((l0.length : Int)) % 4294967296)).bind fun t126 => (ntt_Transform.j1 kj2 (l0.length : Int) t124 t126)) else (ntt_Transform.j1 kj2 (l0.length : Int) t124 1)))) = some (r1, r2) := by rw [if_pos rfl] at H; exact H
          clear H
          have H := H1
          clear H1
          replace H := Option.bind_eq_some_iff.mp H
          obtain ⟨t123, A90, H⟩ := H
          replace H := (Option.bind_some _ _).symm.trans H
          obtain ⟨y9, hy9⟩ : ∃ y9, y9 = trAll a1 t123 := ⟨_, rfl⟩
          replace H : (if a1 = true then ((ntt_field_inverse.f kj2 (((l0.length : Int)) % 4294967296)).bind fun t126 => (ntt_Transform.j1 kj2 (l0.length : Int) y9 t126)) else (ntt_Transform.j1 kj2 (l0.length : Int) y9 1)) = some (r1, r2) := by rw [hy9]; exact H
          have A9 := Aside0.mk A90
          clear A90
          have HC10 := Aside0.mk H
          clear H
          obtain ⟨m, hm, hpw⟩ := HPW.out rfl
          have HLEN := Aside0.mk (turned_length kj2 l0 t123 A9.out)
          have HPW2 := Aside0.mk (And.intro hm hpw)
          have HY := Aside0.mk hy9
          clear hm hpw HPW hy9
          go_wp2_with (first | ((with_reducible refine gate_callee (f := 19) rfl ?_); refine goesL_ (some 33) rfl rfl Try.func19 (by kernel_rfl) rfl #[.slice A0 l0.length c0] rfl (by (try simp only [List.map_toArray, List.map_cons, List.map_nil]); first | done | rfl | (simp only [List.length_drop, List.length_take]; rfl)) ?_; (with_reducible refine (ntt_whole.calls kj2 _ _ l0 true _ ?side1 ?side2 A7.out).mono ?_); (case side1 => repeat (first | exact (Kd.C_below HR0.out HB.out) | (with_reducible refine Kd.C_alloc ?_ _) | (with_reducible refine Kd.C_drewN ?_ _) | (with_reducible refine Kd.C_drew ?_))); (case side2 => exact HC0.out); rintro e w' ⟨rfl, ⟨nd, rfl⟩⟩; refine ⟨_, rfl, ?_⟩) | ((with_reducible refine gate_callee (f := 25) rfl ?_); refine goesL_ (some 36) rfl rfl Try.func25 (by kernel_rfl) rfl #[.slice A0 l0.length c0] rfl (by (try simp only [List.map_toArray, List.map_cons, List.map_nil]); first | done | rfl | (simp only [List.length_drop, List.length_take]; rfl)) ?_; (with_reducible refine (ntt_turned.calls kj2 _ _ l0 t123 _ ?side1 ?side2 A9.out).mono ?_); (case side1 => repeat (first | exact (Kd.C_below HR0.out (by repeat (first | (with_reducible first | exact HB.out | apply below_alloc | apply pw_below_drewN | apply below_drew1) | exact HB.out))) | (with_reducible refine Kd.C_alloc ?_ _) | (with_reducible refine Kd.C_drewN ?_ _) | (with_reducible refine Kd.C_drew ?_))); (case side2 => exact HC0.out); rintro e w11 ⟨v124, rfl, ho0, hb⟩; refine ⟨_, rfl, ?_⟩; have n0_ := Aside0.mk (Kd.R_lower ho0 (below_size (by repeat (first | (with_reducible first | exact HB.out | apply below_alloc | apply pw_below_drewN | apply below_drew1) | exact HB.out)))); have n1_ := Aside0.mk (below_step (by repeat (first | (with_reducible first | exact HB.out | apply below_alloc | apply pw_below_drewN | apply below_drew1) | exact HB.out)) hb); clear HB; have HO125 := n0_; have HB := n1_; clear n0_ n1_; (try clear hb); (try clear hb2); (try clear hk); (try clear hi); (try clear ho0)) | ((with_reducible refine gate_callee (f := 26) rfl ?_); refine goesL_ (some 37) rfl rfl Try.func26 (by kernel_rfl) rfl #[] rfl (by first | done | rfl | simp) ?_; (with_reducible refine (ntt_roots.calls _).mono ?_); rintro e wm ⟨bm, rfl, hbm, hmap, hbel⟩; refine ⟨_, rfl, ?_⟩; have HM := Aside0.mk hmap; have HBM := Aside0.mk hbm; have n0_ := Aside0.mk (Kd.R_below HO125.out hbel); have n1_ := Aside0.mk (below_step HB.out hbel); clear HB HO125; have HO125 := n0_; have HB := n1_; clear n0_ n1_ hbm hmap hbel))
          obtain ⟨g, dd, hv, hg1, hg2, _, hra⟩ := rowAt_of_R HO125.out (fun e_ => by have h1 := HLEN.out; have h2 := HPW2.out.2; rw [e_, List.length_nil] at h1; have h3 : 0 < 2 ^ m := Nat.pos_of_ne_zero (by simp); omega)
          have HG := Aside0.mk (And.intro hg1 (HLEN.out ▸ hg2))
          have HRA := Aside0.mk hra
          rw [HLEN.out] at hv
          obtain ⟨cg, hcg⟩ : ∃ cg, cg = l0.length + dd := ⟨_, rfl⟩
          rw [← hcg] at hv
          have HCG := Aside0.mk hcg
          have hcl : l0.length ≤ cg := by omega
          have hn10 : l0.length ≤ 1024 := by have h1 := HPW2.out.1; have h2 := HPW2.out.2; rw [h2]; exact Nat.pow_le_pow_right (by omega) h1
          subst hv
          clear hg1 hg2 hra hcg HO125 A9 A7 HR0 HC0
          go_loopw [9] (fun v9 wr => ∃ (s z : Nat) (ys : List Int), v9 = .int .i64 z ∧ Aside0 (z = 2 ^ (s + 1) ∧ s ≤ m ∧ ys.length = l0.length ∧ trSteps a1 l0.length (m - s) ys s = y9) ∧ Aside0 (RowAt wr g dd ys) ∧ Aside0 (wr.ownsMap Try.prog 64 (plainElem Try.prog 56) bm 46 (rootMap 23)) ∧ Aside0 (Below w.heap.size w wr)) (fun v9 _ => 4096 - (intOf v9).toNat)
          case atStart => exact ⟨0, 2, t123, rfl, ⟨rfl, by omega, HLEN.out, by rw [HY.out]; unfold trAll; rw [HLEN.out, HPW2.out.2, log2_pow m (by have := HPW2.out.1; omega), Nat.sub_zero]⟩, HRA, HM, HB⟩
          case round =>
            clear HRA HM HB
            obtain ⟨s, z, ys, rfl, HI, HR, HMM, HB2⟩ := hrel
            obtain ⟨wo, rfl⟩ : ∃ wo : World, wo = wr := ⟨_, rfl⟩
            by_cases hsm : s < m
            · obtain ⟨h, hh⟩ : ∃ h, h = 2 ^ s := ⟨_, rfl⟩
              have hzh : z = 2 * h := by rw [HI.out.1, hh, Nat.pow_succ]; omega
              have hpos : 0 < h := by rw [hh]; exact Nat.pos_of_ne_zero (by simp)
              obtain ⟨q, hq⟩ : ∃ q, q = 2 ^ (m - (s + 1)) := ⟨_, rfl⟩
              have hqz : l0.length = q * z := by rw [HPW2.out.2, hq, HI.out.1, ← Nat.pow_add]; congr 1; omega
              have hqpos : 0 < q := by rw [hq]; exact Nat.pos_of_ne_zero (by simp)
              have hzn : z ≤ l0.length := by rw [hqz]; exact Nat.le_mul_of_pos_left _ hqpos
              have hs10 : s + 1 ≤ 10 := by have := HPW2.out.1; omega
              have HKEY := Aside0.mk (show keyOf Try.prog 64 (.agg #[.int .i64 (z : Int), .bool a1]) = some (rootKey (s + 1) a1) by
                rw [HI.out.1, ← root_plain (s + 1) (by omega)]; exact root_keyOf (s + 1) (by omega) a1)
              have HQ := Aside0.mk (And.intro hh (And.intro hq hqz))
              have HZ := Aside0.mk hzh
              have hz1 : 1 < z := by omega
              have hcz : decide (z ≤ l0.length) = true := decide_eq_true hzn
              clear hh hzh hq hqz
              go_wp2_with (at_lookup; refine wpList_lookup_own_int _ rfl (.tmp 43) (.tmp 46) 61 rfl 64 56 .u32 root_keyed Try.underlying61 Try.underlying56 (root_zero _) bm 46 _ rfl HMM.out _ _ rfl HKEY.out ?_; intro c hat hwc; have HC := Aside0.mk hat; clear hat hwc)
              obtain rfl : c = rootAt a1 (s + 1) := by
                have h1 := HC.out
                rw [root_at (s + 1) ⟨by omega, hs10⟩] at h1
                injection h1 with h2
                injection h2 with _ h3
                exact h3.symm
              clear HC
              go_loopw [11] (fun v11 wr => ∃ (j o : Nat) (zs : List Int), v11 = .int .i64 o ∧ Aside0 (o = j * z ∧ j ≤ q ∧ zs.length = l0.length ∧ trBlocks h (rootAt a1 (s + 1)) (q - j) zs o = trBlocks h (rootAt a1 (s + 1)) q ys 0) ∧ Aside0 (RowAt wr g dd zs) ∧ Aside0 (wr.ownsMap Try.prog 64 (plainElem Try.prog 56) bm 46 (rootMap 23)) ∧ Aside0 (Below w.heap.size w wr)) (fun v11 _ => 4096 - (intOf v11).toNat)
              case atStart => exact ⟨0, 0, ys, rfl, ⟨by omega, by omega, HI.out.2.2.1, rfl⟩, HR, HMM, HB2⟩
              case round =>
                clear HR HMM HB2
                obtain ⟨j, o, zs, rfl, HJ, HR, HMM, HB2⟩ := hrel
                by_cases hjq : j < q
                · have hon : o + z ≤ l0.length := by
                    rw [HQ.out.2.2, HJ.out.1, show j * z + z = (j + 1) * z by rw [Nat.add_mul, Nat.one_mul]]; exact Nat.mul_le_mul_right _ (by omega)
                  have hol : o < l0.length := by omega
                  have hoc : o < cg := by omega
                  have hozc : o + z ≤ cg := by omega
                  have e2 : o + z - o = z := by omega
                  have hco : decide (o < l0.length) = true := decide_eq_true hol
                  go_wp2_with ((with_reducible refine gate_callee (f := 27) rfl ?_); refine goesL_ (some 61) rfl rfl Try.func27 (by kernel_rfl) rfl #[.slice (some ⟨g, o, none⟩) z (cg - o), .int .u32 (rootAt a1 (s + 1))] rfl (by first | (go_simp; done) | (simp [e2]; done) | rfl) ?_; refine (ntt_cross.calls2 w.heap.size g dd o h z (cg - o) (rootAt a1 (s + 1)) zs _ HR.out hpos HZ.out (by rw [HJ.out.2.2.1]; exact hon) (by omega) HG.out.1 (by rw [HJ.out.2.2.1]; omega)).mono ?_; rintro e wx ⟨rfl, hrx, hbx, hkx⟩; refine ⟨_, rfl, ?_⟩; have HR3 := Aside0.mk hrx; have HM3 := Aside0.mk (ownsMap_keep HMM.out HR.out hkx); have HB3 := Aside0.mk (Below.trans HB2.out hbx); clear hrx hbx hkx HR HMM HB2)
                  go_roundw
                  case measure => simp [intOf]; omega
                  case rel => exact ⟨j + 1, o + z, _, by go_num, ⟨by rw [HJ.out.1, Nat.add_mul, Nat.one_mul], by omega, by rw [crossGo_length]; exact HJ.out.2.2.1, by
                    have h1 := HJ.out.2.2.2
                    rw [show q - j = (q - (j + 1)) + 1 by omega] at h1
                    simp only [trBlocks] at h1
                    rw [HZ.out]; exact h1⟩, HR3, HM3, HB3⟩
                · have hco : decide (o < l0.length) = false := decide_eq_false (by
                    have h1 := HJ.out.2.1
                    rw [HQ.out.2.2, HJ.out.1, show j = q by omega]; omega)
                  go_wp2
                  go_roundw
                  case measure => simp [intOf]; omega
                  case rel => exact ⟨s + 1, z * 2, zs, by go_num, ⟨by rw [HI.out.1, Nat.pow_succ 2 (s + 1)], by omega, HJ.out.2.2.1, by
                    have h1 := HJ.out.2.2.2
                    rw [show q - j = 0 by have := HJ.out.2.1; omega] at h1
                    simp only [trBlocks] at h1
                    have h2 := HI.out.2.2.2
                    rw [show m - s = (m - (s + 1)) + 1 by omega] at h2
                    simp only [trSteps] at h2
                    rw [← HI.out.1, ← HQ.out.1, show l0.length / z = q by rw [HQ.out.2.2]; exact Nat.mul_div_cancel _ (by omega), ← h1] at h2
                    exact h2⟩, HR, HMM, HB2⟩
            · have hsm2 : s = m := by have := HI.out.2.1; omega
              have hcz : decide (z ≤ l0.length) = false := decide_eq_false (by rw [HI.out.1, HPW2.out.2, hsm2, Nat.pow_succ]; have h3 : 0 < 2 ^ m := Nat.pos_of_ne_zero (by simp); omega)
              have hyy : ys = y9 := by
                have h2 := HI.out.2.2.2
                rw [show m - s = 0 by omega] at h2
                exact h2
              have HO125 := Aside0.mk (show Kd.R (Kd.int .u32) 56 wo w.heap.size (fun _ => True) (.slice (some ⟨g, 0, none⟩) l0.length cg) y9 by
                have hl := HI.out.2.2.1
                have h1 := R_of_rowAt (ok := fun _ => True) (n := l0.length) HR.out HG.out.1 (by rw [hl]; exact HG.out.2) trivial hl.symm
                rw [hl, ← HCG.out] at h1
                rw [← hyy]; exact h1)
              have HB := HB2
              clear HB2 HR HMM HI hyy hsm2 hsm hcl HCG HG HLEN HPW2 HY hn10
              generalize hv_ : Value.slice (some ⟨g, 0, none⟩) l0.length cg = v124 at HO125 ⊢
              clear hv_
              go_upto_if 62 with (fail)
              (try simp only [Act.put, List.setIfInBounds_toArray, List.set_cons_zero, List.set_cons_succ])
              go_cut [12] (fun v12 wc => ∃ (kq : Nat) (x12_9 : Int), v12 = .int .u32 x12_9 ∧ Aside0 (ntt_Transform.j1 kq (l0.length : Int) y9 x12_9 = some (r1, r2)) ∧ Aside0 (kq ≤ kj2) ∧ Aside0 (Kd.R (Kd.int .u32) 56 wc w.heap.size (fun _ => True) v124 y9) ∧ Aside0 (Below w.heap.size w wc))
              case first =>
                have H := HC10.out
                clear HC10
                by_cases c12 : a1 = true
                · subst c12
                  have H1 : ((ntt_field_inverse.f kj2 (((l0.length : Int)) % 4294967296)).bind fun t126 => (ntt_Transform.j1 kj2 (l0.length : Int) y9 t126)) = some (r1, r2) := by rw [if_pos rfl] at H; exact H
                  clear H
                  have H := H1
                  clear H1
                  replace H := Option.bind_eq_some_iff.mp H
                  obtain ⟨t126, A130, H⟩ := H
                  replace H : (ntt_Transform.j1 kj2 (l0.length : Int) y9 t126) = some (r1, r2) := H
                  have A13 := Aside0.mk A130
                  clear A130
                  have H' := Aside0.mk H
                  clear H
                  go_wp2_with (first | ((with_reducible refine gate_callee (f := 28) rfl ?_); refine goesL_ (some 65) rfl rfl Try.func28 (by kernel_rfl) rfl #[.int .u32 (((l0.length : Int)) % 4294967296)] rfl (by (try simp only [List.map_toArray, List.map_cons, List.map_nil]); first | done | rfl | (simp only [List.length_drop, List.length_take]; rfl)) ?_; (with_reducible refine (ntt_field_inverse.calls kj2 (((l0.length : Int)) % 4294967296) t126 _ A13.out).mono ?_); rintro e w' ⟨rfl, ⟨nd, rfl⟩⟩; refine ⟨_, rfl, ?_⟩))
                  go_meet
                  case rel => exact ⟨_, (t126), (by first | rfl | (simp; done) | (simp [*]; done)), H', ⟨by have := HJ2.out; first | omega | exact Nat.le_refl _⟩, ⟨by (with_reducible repeat (first | apply Kd.R_alloc | apply Kd.R_drewN | apply Kd.R_drew)); exact HO125.out⟩, ⟨by repeat (first | (with_reducible first | exact HB.out | apply below_alloc | apply pw_below_drewN | apply below_drew1) | exact HB.out)⟩⟩
                · replace c12 := Bool.eq_false_iff.mpr c12
                  subst c12
                  have H1 : (ntt_Transform.j1 kj2 (l0.length : Int) y9 1) = some (r1, r2) := by rw [if_neg (show ¬ (false = true) by decide)] at H; exact H
                  clear H
                  have H := H1
                  clear H1
                  have H' := Aside0.mk H
                  clear H
                  go_wp2
                  go_meet
                  case rel => exact ⟨_, (1), (by first | rfl | (simp; done) | (simp [*]; done)), H', ⟨by have := HJ2.out; first | omega | exact Nat.le_refl _⟩, ⟨by (with_reducible repeat (first | apply Kd.R_alloc | apply Kd.R_drewN | apply Kd.R_drew)); exact HO125.out⟩, ⟨by repeat (first | (with_reducible first | exact HB.out | apply below_alloc | apply pw_below_drewN | apply below_drew1) | exact HB.out)⟩⟩
              case rest =>
                clear HC10
                try clear c1
                try clear c2
                try clear p2
                try clear c4
                try clear c4b0
                try clear c4b1
                try clear c4b2
                try clear c5
                try clear c5b0
                try clear c5b1
                try clear c6
                try clear p6
                try clear c8
                try clear c12
                try clear p2
                obtain ⟨kq, x12_9, rfl, HA, HJ9, HO_7, HB⟩ := hcut
                cases kq with
                | zero => exact absurd HA.out (by simp [ntt_Transform.j1])
                | succ kj9 =>
                  have H := HA.out
                  clear HA
                  simp only [ntt_Transform.j1] at H
                  by_cases c14 : 0 ≤ (l0.length : Int)
                  · rw [if_pos c14] at H
                    have c14b0 := eq_true c14
                    have c14b1 : decide (0 ≤ (l0.length : Int)) = true := decide_eq_true c14
                    clear c14
                    by_cases c15 : ((l0.length : Int) : Int).toNat ≤ 70368744177664
                    · rw [if_pos c15] at H
                      have c15b0 := eq_true c15
                      have c15b1 : decide (((l0.length : Int) : Int).toNat ≤ 70368744177664) = true := decide_eq_true c15
                      clear c15
                      obtain ⟨y127, hy127⟩ : ∃ y_ : List Int, y_ = (List.replicate ((l0.length : Int) : Int).toNat 0) := ⟨_, rfl⟩
                      replace H : (ntt_Transform.l0 kj9 y9 x12_9 y127 (y127.length : Int) 0) = some (r1, r2) := by first | (rw [hy127]; with_reducible exact H) | (have H2_ := (Option.bind_some _ _).symm.trans H; rw [hy127]; with_reducible exact H2_) | (have H2_ := (Option.bind_some _ _).symm.trans H; with_reducible exact H2_) | with_reducible exact H | (rw [hy127]; exact H) | exact H
                      have Ny127 := Aside0.mk hy127
                      clear hy127
                      have H' := Aside0.mk H
                      clear H
                      go_wp2_with (first | ((with_reducible refine gate_dst (N := 67) rfl ?_); refine Kd.R_make (Kd.int .u32) _ 36 rfl (N := 67) rfl 22 _ _ rfl (l0.length : Int) rfl rfl Try.underlying22 (.int .u32 0) 4 info36 rfl (by decide) (by omega) 0 (ok := fun _ => True) (okp := fun _ => True) rfl (fun _ hk => hk) trivial (of_decide_eq_true (by first | (with_reducible assumption) | assumption)) (Nat.le_trans (Nat.mul_le_mul_right _ (of_decide_eq_true (by first | (with_reducible assumption) | assumption) : (l0.length : Int).toNat ≤ 70368744177664)) (by omega)) (Below.refl _ _) (Nat.le_refl _) ?_; intro v128 w16 ho17 hb hg_ hnew_; clear hg_ hnew_; (first | rw [← Ny127.out] at ho17 | (simp only [Int.reduceToNat] at ho17; rw [← Ny127.out] at ho17)); have n0_ := Aside0.mk (Kd.R_below (by (with_reducible repeat (first | apply Kd.R_alloc | apply Kd.R_drewN | apply Kd.R_drew)); exact HO_7.out) hb); have n1_ := Aside0.mk (Kd.R_lower ho17 (below_size (by repeat (first | (with_reducible first | exact HB.out | apply below_alloc | apply pw_below_drewN | apply below_drew1) | exact HB.out)))); have n2_ := Aside0.mk (below_step (by repeat (first | (with_reducible first | exact HB.out | apply below_alloc | apply pw_below_drewN | apply below_drew1) | exact HB.out)) hb); clear HO_7; clear HB; have HO_7 := n0_; have HO129 := n1_; have HB := n2_; clear n0_ n1_ n2_; clear hb ho17; obtain ⟨Ao18, co18, eo18⟩ := Kd.R_slice HO129.out; subst eo18))
                      go_loopg [70] kj9 (fun kq v70 w' => ∃ (x13_3 : List Int) (x70_3 : Int), v70 = .int .i64 x70_3 ∧ Aside0 (ntt_Transform.l0 kq y9 x12_9 x13_3 (y127.length : Int) x70_3 = some (r1, r2)) ∧ Aside0 (kq ≤ kj9) ∧ Aside0 (Kd.R (Kd.int .u32) 56 w' w.heap.size (fun _ => True) v124 y9) ∧ Aside0 (Kd.R (Kd.int .u32) 36 w' w.heap.size (fun _ => True) (.slice Ao18 y127.length co18) x13_3) ∧ Aside0 (Below w.heap.size w w'))
                      case atStart => exact ⟨(y127), (0), (by first | rfl | (simp; done) | (simp [*]; done)), H', ⟨Nat.le_refl _⟩, ⟨by (with_reducible repeat (first | apply Kd.R_alloc | apply Kd.R_drewN | apply Kd.R_drew)); exact HO_7.out⟩, ⟨by (with_reducible repeat (first | apply Kd.R_alloc | apply Kd.R_drewN | apply Kd.R_drew)); exact HO129.out⟩, ⟨by repeat (first | (with_reducible first | exact HB.out | apply below_alloc | apply pw_below_drewN | apply below_drew1) | exact HB.out)⟩⟩
                      case round =>
                        clear H'
                        try clear c1
                        try clear c2
                        try clear p2
                        try clear c4
                        try clear c4b0
                        try clear c4b1
                        try clear c4b2
                        try clear c5
                        try clear c5b0
                        try clear c5b1
                        try clear c6
                        try clear p6
                        try clear c8
                        try clear c12
                        try clear c14
                        try clear c14b0
                        try clear c14b1
                        try clear c15
                        try clear c15b0
                        try clear c15b1
                        try clear c16
                        try clear p2
                        try clear p6
                        obtain ⟨x13_3, x70_3, rfl, HA, HK3, HO_7, HO_13, HB⟩ := hrel
                        have hl13_3 := (Kd.R_reads' HO_13.out).1
                        rw [hl13_3] at HO_13
                        (try simp only [hl13_3])
                        (try simp only [hl13_3] at HO_7)
                        cases gk with
                        | zero => exact absurd HA.out (by simp [ntt_Transform.l0])
                        | succ k3 =>
                          have H := HA.out
                          clear HA
                          simp only [ntt_Transform.l0] at H
                          by_cases c19 : x70_3 < (y127.length : Int)
                          · rw [if_pos c19] at H
                            have c19b0 : decide (x70_3 < (y127.length : Int)) = true := decide_eq_true c19
                            (try simp only [hl13_3] at c19b0)
                            clear c19
                            by_cases c20 : 0 ≤ x70_3
                            · rw [if_pos c20] at H
                              have c20b0 : decide (0 ≤ x70_3) = true := decide_eq_true c20
                              clear c20
                              by_cases c21 : x70_3 < (y9.length : Int)
                              · rw [if_pos c21] at H
                                have c21b0 : decide (x70_3 < (y9.length : Int)) = true := decide_eq_true c21
                                (try simp only [hl13_3] at c21b0)
                                clear c21
                                replace H := Option.bind_eq_some_iff.mp H
                                obtain ⟨t131, A220, H⟩ := H
                                replace H : (if x70_3 < (x13_3.length : Int) then (ntt_Transform.l0 k3 y9 x12_9 (x13_3.set (x70_3 : Int).toNat t131) (y127.length : Int) (wrap64 (x70_3 + 1))) else (none)) = some (r1, r2) := H
                                have A22 := Aside0.mk A220
                                clear A220
                                by_cases c23 : x70_3 < (x13_3.length : Int)
                                · rw [if_pos c23] at H
                                  have c23b0 : decide (x70_3 < (x13_3.length : Int)) = true := decide_eq_true c23
                                  (try simp only [hl13_3] at c23b0)
                                  clear c23
                                  obtain ⟨y132, hy132⟩ : ∃ y_ : List Int, y_ = (x13_3.set (x70_3 : Int).toNat t131) := ⟨_, rfl⟩
                                  replace H : (ntt_Transform.l0 k3 y9 x12_9 y132 (y127.length : Int) (wrap64 (x70_3 + 1))) = some (r1, r2) := by first | (rw [hy132]; with_reducible exact H) | (have H2_ := (Option.bind_some _ _).symm.trans H; rw [hy132]; with_reducible exact H2_) | (have H2_ := (Option.bind_some _ _).symm.trans H; with_reducible exact H2_) | with_reducible exact H | (rw [hy132]; exact H) | exact H
                                  have Ny132 := Aside0.mk hy132
                                  clear hy132
                                  have H' := Aside0.mk H
                                  clear H
                                  obtain ⟨Ao25, co25, eo25⟩ := Kd.R_slice HO_7.out
                                  subst eo25
                                  have p130 : 0 ≤ (x70_3 : Int) := of_decide_eq_true (by first | (with_reducible assumption) | assumption)
                                  have q130 : x70_3 < (y9.length : Int) := of_decide_eq_true (by first | (with_reducible assumption) | assumption)
                                  obtain ⟨ad130, e130, hx130_0⟩ := Kd.at_int (Kd.R_reads' HO_7.out).2.2 x70_3 p130 q130
                                  cases e130
                                  replace p130 := eq_true p130
                                  replace q130 := eq_true q130
                                  go_wp2_with (first | ((with_reducible refine gate_callee (f := 22) rfl ?_); refine goesL_ (some 80) rfl rfl Try.func22 (by kernel_rfl) rfl #[.int .u32 (rd y9 x70_3), .int .u32 x12_9] rfl (by (try simp only [List.map_toArray, List.map_cons, List.map_nil]); first | done | rfl | (simp only [List.length_drop, List.length_take]; rfl)) ?_; (with_reducible refine (ntt_field_times.calls (rd y9 x70_3) x12_9 t131 _ A22.out).mono ?_); rintro e w' ⟨rfl, ⟨nd, rfl⟩⟩; refine ⟨_, rfl, ?_⟩; (try (rw [drewN_self wr]; generalize hq_ : World.drewN wr _ = wr; have n0_ : Aside0 (Kd.R (Kd.int .u32) 36 wr w.heap.size (fun _ => True) (.slice Ao18 x13_3.length co18) x13_3) := ⟨by rw [← hq_]; exact (by (with_reducible repeat (first | apply Kd.R_alloc | apply Kd.R_drewN | apply Kd.R_drew)); exact HO_13.out)⟩; have n1_ : Aside0 (Kd.R (Kd.int .u32) 56 wr w.heap.size (fun _ => True) (.slice (some ad130) y9.length co25) y9) := ⟨by rw [← hq_]; exact (by (with_reducible repeat (first | apply Kd.R_alloc | apply Kd.R_drewN | apply Kd.R_drew)); exact HO_7.out)⟩; have n2_ : Aside0 (Below w.heap.size w wr) := ⟨by rw [← hq_]; exact (by repeat (first | (with_reducible first | exact HB.out | apply below_alloc | apply pw_below_drewN | apply below_drew1) | exact HB.out))⟩; clear HO_13 HO_7 HB hq_; have HO_13 := n0_; have HO_7 := n1_; have HB := n2_; clear n0_ n1_ n2_)); have p24 : 0 ≤ (x70_3 : Int) := of_decide_eq_true (by first | (with_reducible assumption) | assumption); have q24 : (x70_3 : Int) < ((x13_3.length : Int) : Int) := of_decide_eq_true (by first | (with_reducible assumption) | assumption); obtain ⟨go24, co24, eo24, gb24, gl24, cl24, HG24⟩ := Kd.R_form HO_13.out (by omega); (first | cases eo24 | (injection eo24 with ea_ en_ ec_; (first | subst ea_ | (injection ea_ with ea_; subst ea_)); subst ec_; clear en_)); have GB24 := Aside0.mk gb24; have GG24 := Aside0.mk HG24; clear gb24 gl24 HG24; obtain ⟨hx24_0, hf24_0⟩ := Kd.R_celln 0 HO_13.out (x70_3 : Int) p24 q24; replace p24 := eq_true p24; replace q24 := eq_true q24; obtain ⟨hy26_, hz26_⟩ := Kd.R_celln 0 HO_13.out (x70_3 : Int) (of_decide_eq_true (by first | (with_reducible assumption) | assumption)) (of_decide_eq_true (by first | (with_reducible assumption) | assumption)); have HP26 := Kd.R_putg HO_13.out (x70_3 : Int) t131) | ((with_reducible refine gate_store (t := 36) (p := 81) rfl ?_); refine store_event (t := 36) (p := 81) (v := ?vo_w27) (w1 := (wr.setCell ⟨go24, (x70_3 : Int).toNat, none⟩ (.int .u32 t131))) ?hg ?ho ?hn ?hr ?_; (case ho => rfl); (case hg => rfl); (case hn => rfl); (case hr => first | (go_simp; done) | (go_simp; rfl)); intro w27 hw; have hg : wr.grownBy w27 (some go24) := (by rw [hw]; exact HP26.2); have hp_ : Kd.R (Kd.int .u32) 36 w27 w.heap.size (fun _ => True) (.slice (some ⟨go24, 0, none⟩) x13_3.length co18) y132 := (by rw [hw, Ny132.out]; exact HP26.1); clear HP26; have n0_ := Aside0.mk (Kd.R_over' (v := (.slice (some ⟨go24, 0, none⟩) x13_3.length co18)) (by (with_reducible repeat (first | apply Kd.R_alloc | apply Kd.R_drewN | apply Kd.R_drew)); exact HO_7.out) (Kd.R_typed HO_13.out) (by decide) hg); have n1_ := Aside0.mk (hp_); have n2_ := Aside0.mk ((by rw [hw]; exact below_set (HB.out) GB24.out : Below w.heap.size w w27)); clear HO_7; clear HO_13; clear HB; have HO_7 := n0_; have HO_13 := n1_; have HB := n2_; clear n0_ n1_ n2_; clear hg hw hp_))
                                  (try simp only [← hl13_3])
                                  go_roundg k3
                                  case measure => have := HJ2.out; have := HJ9.out; have := HK3.out; omega
                                  case rel => exact ⟨(y132), (wrap64 (x70_3 + 1)), (by first | rfl | (simp; done) | (simp [*]; done)), H', ⟨by have := HJ2.out; have := HJ9.out; have := HK3.out; omega⟩, ⟨by (try simp only [hl13_3]); (with_reducible repeat (first | apply Kd.R_alloc | apply Kd.R_drewN | apply Kd.R_drew)); exact HO_7.out⟩, ⟨by (try simp only [hl13_3]); (with_reducible repeat (first | apply Kd.R_alloc | apply Kd.R_drewN | apply Kd.R_drew)); exact HO_13.out⟩, ⟨by repeat (first | (with_reducible first | exact HB.out | apply below_alloc | apply pw_below_drewN | apply below_drew1) | exact HB.out)⟩⟩
                                · rw [if_neg c23] at H
                                  exact absurd H (by simp)
                              · rw [if_neg c21] at H
                                exact absurd H (by simp)
                            · rw [if_neg c20] at H
                              exact absurd H (by simp)
                          · rw [if_neg c19] at H
                            have c19b0 : decide (x70_3 < (x13_3.length : Int)) = false := by rw [← hl13_3]; exact decide_eq_false c19
                            clear c19
                            simp only [Option.some.injEq, Prod.mk.injEq] at H
                            obtain ⟨rfl, rfl⟩ := H
                            go_wp2
                            go_ret2
                            exact ⟨_, by first | rfl | (simp [errW_none, errW_some] <;> rfl) | (simp [*, errW_none, errW_some] <;> rfl), by (with_reducible repeat (first | apply Kd.R_alloc | apply Kd.R_drewN | apply Kd.R_drew)); exact HO_13.out, by repeat (first | (with_reducible first | exact HB.out | apply below_alloc | apply pw_below_drewN | apply below_drew1) | exact HB.out)⟩
                    · rw [if_neg c15] at H
                      exact absurd H (by simp)
                  · rw [if_neg c14] at H
                    exact absurd H (by simp)
        · replace c8 := Bool.eq_false_iff.mpr c8
          subst c8
          have H1 : (some (([] : List Int), 1)) = some (r1, r2) := by rw [if_neg (show ¬ (false = true) by decide)] at H; exact H
          clear H
          have H := H1
          clear H1
          simp only [Option.some.injEq, Prod.mk.injEq] at H
          obtain ⟨rfl, rfl⟩ := H
          go_wp2_with (first | ((with_reducible refine gate_callee (f := 19) rfl ?_); refine goesL_ (some 33) rfl rfl Try.func19 (by kernel_rfl) rfl #[.slice A0 l0.length c0] rfl (by (try simp only [List.map_toArray, List.map_cons, List.map_nil]); first | done | rfl | (simp only [List.length_drop, List.length_take]; rfl)) ?_; (with_reducible refine (ntt_whole.calls kj2 _ _ l0 false _ ?side1 ?side2 A7.out).mono ?_); (case side1 => repeat (first | exact (Kd.C_below HR0.out HB.out) | (with_reducible refine Kd.C_alloc ?_ _) | (with_reducible refine Kd.C_drewN ?_ _) | (with_reducible refine Kd.C_drew ?_))); (case side2 => exact HC0.out); rintro e w' ⟨rfl, ⟨nd, rfl⟩⟩; refine ⟨_, rfl, ?_⟩))
          go_ret2
          exact ⟨_, by first | rfl | (simp [errW_none, errW_some] <;> rfl) | (simp [*, errW_none, errW_some] <;> rfl), by first | exact Kd.R_nil _ _ _ _ _ | exact Kd.N_nil _ _ _ _ _ | exact Kd.V_nil _ _ _ _ _ | exact Kd.Q_nil _ _ _ _ _ | exact Kd.S_nil _ _ _ _ _, by repeat (first | (with_reducible first | exact HB.out | apply below_alloc | apply pw_below_drewN | apply below_drew1) | exact HB.out)⟩
/-! ### ntt_Pow: function 13 -/
def ntt_Pow.f (k : Nat) (a0 : Int) (a1 : Int) : Option (Int) := if a1 < 0 then ((ntt_field_inverse.f k (Int.tmod a0 998244353)).bind fun t119 => ((ntt_field_power.f k t119 (IntKind.u64.wrap (wrap64 (-a1)))).bind fun t120 => (some t120))) else ((ntt_field_power.f k (Int.tmod a0 998244353) (IntKind.u64.wrap (a1))).bind fun t121 => (some t121))
theorem ntt_Pow.mono : ∀ a0 a1 k, LeO (ntt_Pow.f k a0 a1) (ntt_Pow.f (k + 1) a0 a1) := by
  intro a0 a1 k
  unfold ntt_Pow.f
  repeat' first
      | (with_reducible exact ntt_field_inverse.mono _ _)
      | (with_reducible exact ntt_field_power.mono _ _ _)
      | (with_reducible exact LeO.refl _)
      | (with_reducible exact LeO.none _)
      | (with_reducible refine LeO.ite ?_ ?_)
      | (with_reducible refine LeO.bind ?_ (fun _ => ?_))
      | exact ntt_field_inverse.mono _ _
      | exact ntt_field_power.mono _ _ _
      | exact LeO.none _
      | refine LeO.ite ?_ ?_
      | refine LeO.bind ?_ (fun _ => ?_)
set_option maxHeartbeats 8000000 in
set_option maxRecDepth 100000 in
theorem ntt_Pow.calls (k : Nat) (a0 : Int) (a1 : Int) (r : Int) (w : World) (h : ntt_Pow.f k a0 a1 = some r) :
    Calls Try.prog 13 #[.int .u32 a0, .int .i64 a1] w fun e w' => e = .returned (.int .u32 r) ∧ Drawn0 w w' := by
  have H : (if a1 < 0 then ((ntt_field_inverse.f k (Int.tmod a0 998244353)).bind fun t119 => ((ntt_field_power.f k t119 (IntKind.u64.wrap (wrap64 (-a1)))).bind fun t120 => (some t120))) else ((ntt_field_power.f k (Int.tmod a0 998244353) (IntKind.u64.wrap (a1))).bind fun t121 => (some t121))) = some r := h
  clear h
  by_cases c3 : a1 < 0
  · rw [if_pos c3] at H
    have c3b0 : decide (a1 < 0) = true := decide_eq_true c3
    clear c3
    replace H := Option.bind_eq_some_iff.mp H
    obtain ⟨t119, A40, H⟩ := H
    replace H : ((ntt_field_power.f k t119 (IntKind.u64.wrap (wrap64 (-a1)))).bind fun t120 => (some t120)) = some r := H
    have A4 := Aside0.mk A40
    clear A40
    replace H := Option.bind_eq_some_iff.mp H
    obtain ⟨t120, A50, H⟩ := H
    replace H : (some t120) = some r := H
    have A5 := Aside0.mk A50
    clear A50
    obtain rfl := Option.some.inj H
    go_enter Try.func13, Try.ntmps13
    go_wp2_with (first | ((with_reducible refine gate_callee (f := 28) rfl ?_); refine goesL_ (some 11) rfl rfl Try.func28 (by kernel_rfl) rfl #[.int .u32 (Int.tmod a0 998244353)] rfl (by (try simp only [List.map_toArray, List.map_cons, List.map_nil]); first | done | rfl | (simp only [List.length_drop, List.length_take]; rfl)) ?_; (with_reducible refine (ntt_field_inverse.calls k (Int.tmod a0 998244353) t119 _ A4.out).mono ?_); rintro e w' ⟨rfl, ⟨nd, rfl⟩⟩; refine ⟨_, rfl, ?_⟩) | ((with_reducible refine gate_callee (f := 29) rfl ?_); refine goesL_ (some 15) rfl rfl Try.func29 (by kernel_rfl) rfl #[.int .u32 t119, .int .u64 (IntKind.u64.wrap (wrap64 (-a1)))] rfl (by (try simp only [List.map_toArray, List.map_cons, List.map_nil]); first | done | rfl | (simp only [List.length_drop, List.length_take]; rfl)) ?_; (with_reducible refine (ntt_field_power.calls k t119 (IntKind.u64.wrap (wrap64 (-a1))) t120 _ A5.out).mono ?_); rintro e w' ⟨rfl, ⟨nd, rfl⟩⟩; refine ⟨_, rfl, ?_⟩))
    go_ret
    exact ⟨by first | rfl | (simp; done) | (simp [*]; done), by repeat (first | exact Drawn0.refl _ | apply Drawn0.step)⟩
  · rw [if_neg c3] at H
    have c3b0 : decide (a1 < 0) = false := decide_eq_false c3
    clear c3
    replace H := Option.bind_eq_some_iff.mp H
    obtain ⟨t121, A60, H⟩ := H
    replace H : (some t121) = some r := H
    have A6 := Aside0.mk A60
    clear A60
    obtain rfl := Option.some.inj H
    go_enter Try.func13, Try.ntmps13
    go_wp2_with (first | ((with_reducible refine gate_callee (f := 29) rfl ?_); refine goesL_ (some 19) rfl rfl Try.func29 (by kernel_rfl) rfl #[.int .u32 (Int.tmod a0 998244353), .int .u64 (IntKind.u64.wrap (a1))] rfl (by (try simp only [List.map_toArray, List.map_cons, List.map_nil]); first | done | rfl | (simp only [List.length_drop, List.length_take]; rfl)) ?_; (with_reducible refine (ntt_field_power.calls k (Int.tmod a0 998244353) (IntKind.u64.wrap (a1)) t121 _ A6.out).mono ?_); rintro e w' ⟨rfl, ⟨nd, rfl⟩⟩; refine ⟨_, rfl, ?_⟩))
    go_ret
    exact ⟨by first | rfl | (simp; done) | (simp [*]; done), by repeat (first | exact Drawn0.refl _ | apply Drawn0.step)⟩
/-! ### anticlinelaw8_known: function 6 -/
def anticlinelaw8_known.f (k : Nat)  : Option (Bool) := (ntt_Transform.f k (([9] : List Int)) false).bind fun bt125 => (if bt125.2 = 0 then (if (bt125.1.length : Int) = 1 then (if 0 < (bt125.1.length : Int) then (if (rd bt125.1 0) = 9 then ((ntt_Pow.f k 2 10).bind fun t130 => (some (t130 == 1024))) else (none)) else (none)) else (none)) else (none))
theorem anticlinelaw8_known.mono : ∀ k, LeO (anticlinelaw8_known.f k ) (anticlinelaw8_known.f (k + 1) ) := by
  intro  k
  unfold anticlinelaw8_known.f
  repeat' first
      | (with_reducible exact ntt_Pow.mono _ _ _)
      | (with_reducible exact ntt_Transform.mono _ _ _)
      | (with_reducible exact LeO.refl _)
      | (with_reducible exact LeO.none _)
      | (with_reducible refine LeO.ite ?_ ?_)
      | (with_reducible refine LeO.bind ?_ (fun _ => ?_))
      | exact ntt_Pow.mono _ _ _
      | exact ntt_Transform.mono _ _ _
      | exact LeO.none _
      | refine LeO.ite ?_ ?_
      | refine LeO.bind ?_ (fun _ => ?_)
set_option maxHeartbeats 8000000 in
set_option maxRecDepth 100000 in
theorem anticlinelaw8_known.calls (k : Nat)  (r : Bool) (w : World) (h : anticlinelaw8_known.f k  = some r) :
    Calls Try.prog 6 #[] w fun e w' => e = .returned (.bool r) ∧ Below w.heap.size w w' := by
  have HB := Aside0.mk (Below.refl w.heap.size w)
  have H : ((ntt_Transform.f k (([9] : List Int)) false).bind fun bt125 => (if bt125.2 = 0 then (if (bt125.1.length : Int) = 1 then (if 0 < (bt125.1.length : Int) then (if (rd bt125.1 0) = 9 then ((ntt_Pow.f k 2 10).bind fun t130 => (some (t130 == 1024))) else (none)) else (none)) else (none)) else (none))) = some r := h
  clear h
  obtain ⟨y122, hy122⟩ : ∃ y_ : List Int, y_ = (([9] : List Int)) := ⟨_, rfl⟩
  replace H : ((ntt_Transform.f k y122 false).bind fun bt125 => (if bt125.2 = 0 then (if (bt125.1.length : Int) = 1 then (if 0 < (bt125.1.length : Int) then (if (rd bt125.1 0) = 9 then ((ntt_Pow.f k 2 10).bind fun t130 => (some (t130 == 1024))) else (none)) else (none)) else (none)) else (none))) = some r := by first | (rw [hy122]; with_reducible exact H) | (have H2_ := (Option.bind_some _ _).symm.trans H; rw [hy122]; with_reducible exact H2_) | (have H2_ := (Option.bind_some _ _).symm.trans H; with_reducible exact H2_) | with_reducible exact H | (rw [hy122]; exact H) | exact H
  have Ny122 := Aside0.mk hy122
  clear hy122
  replace H := Option.bind_eq_some_iff.mp H
  obtain ⟨⟨t125, t126⟩, A10, H⟩ := H
  replace H : (if t126 = 0 then (if (t125.length : Int) = 1 then (if 0 < (t125.length : Int) then (if (rd t125 0) = 9 then ((ntt_Pow.f k 2 10).bind fun t130 => (some (t130 == 1024))) else (none)) else (none)) else (none)) else (none)) = some r := H
  have A1 := Aside0.mk A10
  clear A10
  by_cases c2 : t126 = 0
  · rw [if_pos c2] at H
    have c2b0 : (t126 == 0) = true := beq_iff_eq.mpr c2
    have c2b1 : (t126 != 0) = false := bne_eq_false_iff_eq.mpr c2
    clear c2
    by_cases c3 : (t125.length : Int) = 1
    · rw [if_pos c3] at H
      have c3b0 : ((t125.length : Int) == 1) = true := beq_iff_eq.mpr c3
      have c3b1 : ((t125.length : Int) != 1) = false := bne_eq_false_iff_eq.mpr c3
      clear c3
      by_cases c4 : 0 < (t125.length : Int)
      · rw [if_pos c4] at H
        have c4b0 : decide (0 < (t125.length : Int)) = true := decide_eq_true c4
        have c4b1 : decide (0 < t125.length) = true := decide_eq_true (by omega)
        clear c4
        by_cases c5 : (rd t125 0) = 9
        · rw [if_pos c5] at H
          have c5b0 : ((rd t125 0) == 9) = true := beq_iff_eq.mpr c5
          have c5b1 : ((rd t125 0) != 9) = false := bne_eq_false_iff_eq.mpr c5
          clear c5
          replace H := Option.bind_eq_some_iff.mp H
          obtain ⟨t130, A60, H⟩ := H
          replace H : (some (t130 == 1024)) = some r := H
          have A6 := Aside0.mk A60
          clear A60
          obtain rfl := Option.some.inj H
          go_enter Try.func6, Try.ntmps6
          go_wp2_with (first | ((with_reducible refine gate_dst (N := 4) rfl ?_); (try (refine gate_guard (by rfl) ?_; dsimp only)); refine Kd.R_lit (Kd.int .u32) _ 36 ?hg (N := 4) ?hd (xs := ([9] : List Int)) (inner := [.int .u32 9]) (ok := fun _ => True) (okp := fun _ => True) ?hr ?hp (fun _ hk => hk) trivial (Below.refl _ _) (Nat.le_refl _) (by simp) ?_; (case hd => rfl); (case hg => rfl); (case hr => first | (go_simp; done) | (go_simp; rfl)); (case hp => exact (Reps.one (show Kd.M (Kd.int .u32) _ _ _ 9 [.int .u32 9] from rfl) (Reps.none _ _))); intro v123 w7 ho8 hb hg_ hnew_; clear hg_ hnew_; (first | rw [← Ny122.out] at ho8 | (simp only [Int.reduceToNat] at ho8; rw [← Ny122.out] at ho8)); have n0_ := Aside0.mk (Kd.R_lower ho8 (below_size (by repeat (first | (with_reducible first | exact HB.out | apply below_alloc | apply pw_below_drewN | apply below_drew1) | exact HB.out)))); have n1_ := Aside0.mk (below_step (by repeat (first | (with_reducible first | exact HB.out | apply below_alloc | apply pw_below_drewN | apply below_drew1) | exact HB.out)) hb); clear HB; have HO124 := n0_; have HB := n1_; clear n0_ n1_; clear hb ho8; obtain ⟨Ao9, co9, eo9⟩ := Kd.R_slice HO124.out; subst eo9) | ((with_reducible refine gate_callee (f := 12) rfl ?_); refine goesL_ (some 5) rfl rfl Try.func12 (by kernel_rfl) rfl #[.slice Ao9 y122.length co9, .bool false] rfl (by (try simp only [List.map_toArray, List.map_cons, List.map_nil]); first | done | rfl | (simp only [List.length_drop, List.length_take]; rfl)) ?_; (with_reducible refine (ntt_Transform.calls k _ _ y122 false t125 t126 _ ?side1 ?side2 A1.out).mono ?_); (case side1 => repeat (first | exact (Kd.R_reads' HO124.out).2.2 | (with_reducible refine Kd.C_alloc ?_ _) | (with_reducible refine Kd.C_drewN ?_ _) | (with_reducible refine Kd.C_drew ?_))); (case side2 => exact (Kd.R_reads' HO124.out).2.1); rintro e w10 ⟨v127, rfl, ho0, hb⟩; refine ⟨_, rfl, ?_⟩; have n0_ := Aside0.mk (Kd.R_elder' (by (with_reducible repeat (first | apply Kd.R_alloc | apply Kd.R_drewN | apply Kd.R_drew)); exact HO124.out) (Kd.R_base ho0) hb); have n1_ := Aside0.mk (Kd.R_lower (Kd.R_new' ho0 (Kd.R_lt (by (with_reducible repeat (first | apply Kd.R_alloc | apply Kd.R_drewN | apply Kd.R_drew)); exact HO124.out))) (below_size (by repeat (first | (with_reducible first | exact HB.out | apply below_alloc | apply pw_below_drewN | apply below_drew1) | exact HB.out)))); have n2_ := Aside0.mk (below_step (by repeat (first | (with_reducible first | exact HB.out | apply below_alloc | apply pw_below_drewN | apply below_drew1) | exact HB.out)) hb); clear HO124; clear HB; have HO124 := n0_; have HO128 := n1_; have HB := n2_; clear n0_ n1_ n2_; (try clear hb); (try clear hb2); (try clear hk); (try clear hi); (try clear ho0); obtain ⟨Ao11, co11, eo11⟩ := Kd.R_slice HO128.out; subst eo11; have p129 : 0 ≤ (0 : Int) := (by omega); have q129 : 0 < (t125.length : Int) := of_decide_eq_true (by first | (with_reducible assumption) | assumption); obtain ⟨ad129, e129, hx129_0⟩ := Kd.at_int (Kd.R_reads' HO128.out).2.2 0 p129 q129; cases e129; have qi129 : (0 < t125.length) = True := eq_true (by omega); (try rw [show ((0 : Int)).toNat = 0 from rfl] at hx129_0); (try rw [Addr.add_zero'] at hx129_0); replace p129 := eq_true p129; replace q129 := eq_true q129) | (go_at_call 13; (with_reducible refine (ntt_Pow.calls k 2 10 t130 _ A6.out).mono ?_); rintro e w' ⟨rfl, ⟨nd, rfl⟩⟩))
          go_ret
          exact ⟨by first | rfl | (simp [errW_none, errW_some] <;> rfl) | (simp [*, errW_none, errW_some] <;> rfl), by repeat (first | (with_reducible first | exact HB.out | apply below_alloc | apply pw_below_drewN | apply below_drew1) | exact HB.out)⟩
        · rw [if_neg c5] at H
          exact absurd H (by simp)
      · rw [if_neg c4] at H
        exact absurd H (by simp)
    · rw [if_neg c3] at H
      exact absurd H (by simp)
  · rw [if_neg c2] at H
    exact absurd H (by simp)
/-! ### anticlinelaw8_Row: function 7 -/
def anticlinelaw8_Row.l0 : Nat → List Int → Int → List Int → Int → Option (List Int)
  | 0, _, _, _, _ => none
  | k + 1, x0, x1, x5, x6 => if x6 < x1 then (if x6 < (x0.length : Int) then (if 0 ≤ x6 then (if x5.length < 35184372088832 then (anticlinelaw8_Row.l0 k x0 x1 (x5 ++ [Int.tmod (rd x0 x6) 998244353]) (wrap64 (x6 + 1))) else (none)) else (none)) else (if x5.length < 35184372088832 then (anticlinelaw8_Row.l0 k x0 x1 (x5 ++ [(wrap64 ((wrap64 (7 * x6)) + 1)) % 4294967296]) (wrap64 (x6 + 1))) else (none))) else (some x5)
def anticlinelaw8_Row.f (k : Nat) (l0 : List Int) (a1 : Int) : Option (List Int) := anticlinelaw8_Row.l0 k l0 a1 ([] : List Int) 0
theorem anticlinelaw8_Row.mono_l : ∀ k, (∀ y0 y1 y2 y3, LeO (anticlinelaw8_Row.l0 k y0 y1 y2 y3) (anticlinelaw8_Row.l0 (k + 1) y0 y1 y2 y3))
  | 0 => fun _ _ _ _ r h => by simp [anticlinelaw8_Row.l0] at h
  | k + 1 => by
    have ih0 := anticlinelaw8_Row.mono_l k
    · intro y0 y1 y2 y3
      unfold anticlinelaw8_Row.l0
      repeat' first
      | (with_reducible exact ih0 _ _ _ _)
      | (with_reducible exact LeO.refl _)
      | (with_reducible exact LeO.none _)
      | (with_reducible refine LeO.ite ?_ ?_)
      | (with_reducible refine LeO.bind ?_ (fun _ => ?_))
      | exact ih0 _ _ _ _
      | exact LeO.none _
      | refine LeO.ite ?_ ?_
      | refine LeO.bind ?_ (fun _ => ?_)
theorem anticlinelaw8_Row.mono : ∀ a0 a1 k, LeO (anticlinelaw8_Row.f k a0 a1) (anticlinelaw8_Row.f (k + 1) a0 a1) := by
  intro a0 a1 k
  have ih0 := anticlinelaw8_Row.mono_l k
  unfold anticlinelaw8_Row.f
  repeat' first
      | (with_reducible exact ih0 _ _ _ _)
      | (with_reducible exact LeO.refl _)
      | (with_reducible exact LeO.none _)
      | (with_reducible refine LeO.ite ?_ ?_)
      | (with_reducible refine LeO.bind ?_ (fun _ => ?_))
      | exact ih0 _ _ _ _
      | exact LeO.none _
      | refine LeO.ite ?_ ?_
      | refine LeO.bind ?_ (fun _ => ?_)
set_option maxHeartbeats 8000000 in
set_option maxRecDepth 100000 in
theorem anticlinelaw8_Row.calls (k : Nat) (A0 : Option Addr) (c0 : Nat) (l0 : List Int) (a1 : Int) (r : List Int) (w : World) (hr0 : Kd.C (Kd.int .u32) w A0 l0.length l0) (hc0 : l0.length ≤ c0) (h : anticlinelaw8_Row.f k l0 a1 = some r) :
    Calls Try.prog 7 #[.slice A0 l0.length c0, .int .i64 a1] w fun e w' => ∃ v0_ : Value, e = .returned (v0_) ∧ Kd.R (Kd.int .u32) 36 w' w.heap.size (fun _ => True) v0_ r ∧ Below w.heap.size w w' := by
  have HR0 := Aside0.mk hr0
  have HC0 := Aside0.mk hc0
  clear hr0 hc0
  have HB := Aside0.mk (Below.refl w.heap.size w)
  have H : (anticlinelaw8_Row.l0 k l0 a1 ([] : List Int) 0) = some r := h
  clear h
  have H' := Aside0.mk H
  clear H
  go_enter Try.func7, Try.ntmps7
  go_wp2
  go_loopg [5, 6] k (fun kq v5 v6 w' => ∃ (x5_1 : List Int) (x6_1 : Int), v6 = .int .i64 x6_1 ∧ Aside0 (anticlinelaw8_Row.l0 kq l0 a1 x5_1 x6_1 = some r) ∧ Aside0 (kq ≤ k) ∧ Aside0 (Kd.R (Kd.int .u32) 36 w' w.heap.size (fun _ => True) v5 x5_1) ∧ Aside0 (Below w.heap.size w w'))
  case atStart => exact ⟨(([] : List Int)), (0), (by first | rfl | (simp; done) | (simp [*]; done)), H', ⟨Nat.le_refl _⟩, ⟨by first | exact Kd.R_nil _ _ _ _ _ | exact Kd.N_nil _ _ _ _ _ | exact Kd.V_nil _ _ _ _ _ | exact Kd.Q_nil _ _ _ _ _ | exact Kd.S_nil _ _ _ _ _⟩, ⟨by repeat (first | (with_reducible first | exact HB.out | apply below_alloc | apply pw_below_drewN | apply below_drew1) | exact HB.out)⟩⟩
  case round =>
    clear H'
    try clear p2
    obtain ⟨x5_1, x6_1, rfl, HA, HK1, HO_5, HB⟩ := hrel
    cases gk with
    | zero => exact absurd HA.out (by simp [anticlinelaw8_Row.l0])
    | succ k1 =>
      have H := HA.out
      clear HA
      simp only [anticlinelaw8_Row.l0] at H
      by_cases c3 : x6_1 < a1
      · rw [if_pos c3] at H
        have c3b0 : decide (x6_1 < a1) = true := decide_eq_true c3
        clear c3
        by_cases c4 : x6_1 < (l0.length : Int)
        · rw [if_pos c4] at H
          have c4b0 : decide (x6_1 < (l0.length : Int)) = true := decide_eq_true c4
          clear c4
          by_cases c5 : 0 ≤ x6_1
          · rw [if_pos c5] at H
            have c5b0 : decide (0 ≤ x6_1) = true := decide_eq_true c5
            clear c5
            by_cases c6 : x5_1.length < 35184372088832
            · rw [if_pos c6] at H
              have LMc6 := Aside0.mk c6
              clear c6
              obtain ⟨y132, hy132⟩ : ∃ y_ : List Int, y_ = (x5_1 ++ [Int.tmod (rd l0 x6_1) 998244353]) := ⟨_, rfl⟩
              replace H : (anticlinelaw8_Row.l0 k1 l0 a1 y132 (wrap64 (x6_1 + 1))) = some r := by first | (rw [hy132]; with_reducible exact H) | (have H2_ := (Option.bind_some _ _).symm.trans H; rw [hy132]; with_reducible exact H2_) | (have H2_ := (Option.bind_some _ _).symm.trans H; with_reducible exact H2_) | with_reducible exact H | (rw [hy132]; exact H) | exact H
              have Ny132 := Aside0.mk hy132
              clear hy132
              have H' := Aside0.mk H
              clear H
              have p131 : 0 ≤ (x6_1 : Int) := of_decide_eq_true (by first | (with_reducible assumption) | assumption)
              have q131 : x6_1 < (l0.length : Int) := of_decide_eq_true (by first | (with_reducible assumption) | assumption)
              obtain ⟨ad131, e131, hx131_0⟩ := Kd.at_int HR0.out x6_1 p131 q131
              cases e131
              replace hx131_0 := (HB.out.cell (World.block_lt_of_cell? w _ hx131_0)).trans hx131_0
              replace p131 := eq_true p131
              replace q131 := eq_true q131
              go_wp2_with (first | ((with_reducible refine gate_builtin (b := .append) (xs := #[.tmp 26, .tmp 28]) rfl ?_); at_builtin; refine Kd.R_append (Kd.int .u32) (w0 := w) w.heap.size rfl (.tmp 26) (.tmp 28) 22 36 (.int .u32 0) 4 rfl Try.underlying22 info36 rfl (by decide) (by omega) u5 x5_1 (Int.tmod (rd l0 x6_1) 998244353) [.int .u32 (Int.tmod (rd l0 x6_1) 998244353)] (fun _ => True) (fun _ => False) rfl rfl ?aP (fun _ hk => hk.elim) ?aF ?aO ?aB ?aS ?aL ?_; (case aP => exact rfl); (case aB => exact (by repeat (first | (with_reducible first | exact HB.out | apply below_alloc | apply pw_below_drewN | apply below_drew1) | exact HB.out))); (case aF => exact (fun _ _ => trivial)); (case aO => exact (by (with_reducible repeat (first | apply Kd.R_alloc | apply Kd.R_drewN | apply Kd.R_drew)); exact HO_5.out)); (case aS => exact (below_size (by repeat (first | (with_reducible first | exact HB.out | apply below_alloc | apply pw_below_drewN | apply below_drew1) | exact HB.out)))); (case aL => have := LMc6.out; omega); intro v133 w7 ho hb hg hat; rw [← Ny132.out] at ho; have n0_ := Aside0.mk (hb); have n1_ := Aside0.mk (ho); clear HB; clear HO_5; have HB := n0_; have HO134 := n1_; clear n0_ n1_; clear ho hb hg hat))
              go_roundg k1
              case measure => have := HK1.out; omega
              case rel => exact ⟨(y132), (wrap64 (x6_1 + 1)), (by first | rfl | (simp; done) | (simp [*]; done)), H', ⟨by have := HK1.out; omega⟩, ⟨by (with_reducible repeat (first | apply Kd.R_alloc | apply Kd.R_drewN | apply Kd.R_drew)); exact HO134.out⟩, ⟨by repeat (first | (with_reducible first | exact HB.out | apply below_alloc | apply pw_below_drewN | apply below_drew1) | exact HB.out)⟩⟩
            · rw [if_neg c6] at H
              exact absurd H (by simp)
          · rw [if_neg c5] at H
            exact absurd H (by simp)
        · rw [if_neg c4] at H
          have c4b0 : decide (x6_1 < (l0.length : Int)) = false := decide_eq_false c4
          clear c4
          by_cases c8 : x5_1.length < 35184372088832
          · rw [if_pos c8] at H
            have LMc8 := Aside0.mk c8
            clear c8
            obtain ⟨y135, hy135⟩ : ∃ y_ : List Int, y_ = (x5_1 ++ [(wrap64 ((wrap64 (7 * x6_1)) + 1)) % 4294967296]) := ⟨_, rfl⟩
            replace H : (anticlinelaw8_Row.l0 k1 l0 a1 y135 (wrap64 (x6_1 + 1))) = some r := by first | (rw [hy135]; with_reducible exact H) | (have H2_ := (Option.bind_some _ _).symm.trans H; rw [hy135]; with_reducible exact H2_) | (have H2_ := (Option.bind_some _ _).symm.trans H; with_reducible exact H2_) | with_reducible exact H | (rw [hy135]; exact H) | exact H
            have Ny135 := Aside0.mk hy135
            clear hy135
            have H' := Aside0.mk H
            clear H
            go_wp2_with (first | ((with_reducible refine gate_builtin (b := .append) (xs := #[.tmp 26, .tmp 28]) rfl ?_); at_builtin; refine Kd.R_append (Kd.int .u32) (w0 := w) w.heap.size rfl (.tmp 26) (.tmp 28) 22 36 (.int .u32 0) 4 rfl Try.underlying22 info36 rfl (by decide) (by omega) u5 x5_1 ((wrap64 ((wrap64 (7 * x6_1)) + 1)) % 4294967296) [.int .u32 ((wrap64 ((wrap64 (7 * x6_1)) + 1)) % 4294967296)] (fun _ => True) (fun _ => False) rfl rfl ?aP (fun _ hk => hk.elim) ?aF ?aO ?aB ?aS ?aL ?_; (case aP => exact rfl); (case aB => exact (by repeat (first | (with_reducible first | exact HB.out | apply below_alloc | apply pw_below_drewN | apply below_drew1) | exact HB.out))); (case aF => exact (fun _ _ => trivial)); (case aO => exact (by (with_reducible repeat (first | apply Kd.R_alloc | apply Kd.R_drewN | apply Kd.R_drew)); exact HO_5.out)); (case aS => exact (below_size (by repeat (first | (with_reducible first | exact HB.out | apply below_alloc | apply pw_below_drewN | apply below_drew1) | exact HB.out)))); (case aL => have := LMc8.out; omega); intro v136 w9 ho hb hg hat; rw [← Ny135.out] at ho; have n0_ := Aside0.mk (hb); have n1_ := Aside0.mk (ho); clear HB; clear HO_5; have HB := n0_; have HO137 := n1_; clear n0_ n1_; clear ho hb hg hat))
            go_roundg k1
            case measure => have := HK1.out; omega
            case rel => exact ⟨(y135), (wrap64 (x6_1 + 1)), (by first | rfl | (simp; done) | (simp [*]; done)), H', ⟨by have := HK1.out; omega⟩, ⟨by (with_reducible repeat (first | apply Kd.R_alloc | apply Kd.R_drewN | apply Kd.R_drew)); exact HO137.out⟩, ⟨by repeat (first | (with_reducible first | exact HB.out | apply below_alloc | apply pw_below_drewN | apply below_drew1) | exact HB.out)⟩⟩
          · rw [if_neg c8] at H
            exact absurd H (by simp)
      · rw [if_neg c3] at H
        have c3b0 : decide (x6_1 < a1) = false := decide_eq_false c3
        clear c3
        obtain rfl := Option.some.inj H
        go_wp2
        go_ret
        exact ⟨_, by first | rfl | (simp [errW_none, errW_some] <;> rfl) | (simp [*, errW_none, errW_some] <;> rfl), by (with_reducible repeat (first | apply Kd.R_alloc | apply Kd.R_drewN | apply Kd.R_drew)); exact HO_5.out, by repeat (first | (with_reducible first | exact HB.out | apply below_alloc | apply pw_below_drewN | apply below_drew1) | exact HB.out)⟩
/-! ### anticlinelaw8_within: function 8 -/
def anticlinelaw8_within.f (a0 : Int) (a1 : Int) : Option (Int) := if a1 = 0 then (none) else (if (Int.tmod a0 a1) < 0 then (some (wrap64 ((Int.tmod a0 a1) + a1))) else (some (Int.tmod a0 a1)))
set_option maxHeartbeats 8000000 in
set_option maxRecDepth 100000 in
theorem anticlinelaw8_within.calls (a0 : Int) (a1 : Int) (r : Int) (w : World) (h : anticlinelaw8_within.f a0 a1 = some r) :
    Calls Try.prog 8 #[.int .i64 a0, .int .i64 a1] w fun e w' => e = .returned (.int .i64 r) ∧ Drawn0 w w' := by
  have H : (if a1 = 0 then (none) else (if (Int.tmod a0 a1) < 0 then (some (wrap64 ((Int.tmod a0 a1) + a1))) else (some (Int.tmod a0 a1)))) = some r := h
  clear h
  by_cases c3 : a1 = 0
  · rw [if_pos c3] at H
    exact absurd H (by simp)
  · rw [if_neg c3] at H
    have c3b0 : (a1 == 0) = false := beq_eq_false_iff_ne.mpr c3
    have c3b1 : (a1 != 0) = true := bne_iff_ne.mpr c3
    by_cases c4 : (Int.tmod a0 a1) < 0
    · rw [if_pos c4] at H
      have c4b0 : decide ((Int.tmod a0 a1) < 0) = true := decide_eq_true c4
      clear c4
      obtain rfl := Option.some.inj H
      go_enter Try.func8, Try.ntmps8
      go_wp2
      go_ret
      exact ⟨by first | rfl | (simp; done) | (simp [*]; done), by repeat (first | exact Drawn0.refl _ | apply Drawn0.step)⟩
    · rw [if_neg c4] at H
      have c4b0 : decide ((Int.tmod a0 a1) < 0) = false := decide_eq_false c4
      clear c4
      obtain rfl := Option.some.inj H
      go_enter Try.func8, Try.ntmps8
      go_wp2
      go_ret
      exact ⟨by first | rfl | (simp; done) | (simp [*]; done), by repeat (first | exact Drawn0.refl _ | apply Drawn0.step)⟩
/-! ### slices_Clone_uint32_uint32: function 21 -/
def slices_Clone_uint32_uint32.f (l0 : List Int) : Option (List Int) := if l0.length < 35184372088832 then (some l0) else (none)
set_option maxHeartbeats 8000000 in
set_option maxRecDepth 100000 in
theorem slices_Clone_uint32_uint32.calls (A0 : Option Addr) (c0 : Nat) (l0 : List Int) (r : List Int) (w : World) (hr0 : Kd.C (Kd.int .u32) w A0 l0.length l0) (hc0 : l0.length ≤ c0) (h : slices_Clone_uint32_uint32.f l0 = some r) :
    Calls Try.prog 21 #[.slice A0 l0.length c0] w fun e w' => ∃ v0_ : Value, e = .returned (v0_) ∧ Kd.R (Kd.int .u32) 36 w' w.heap.size (fun _ => True) v0_ r ∧ Below w.heap.size w w' := by
  have hnil : ∀ W, (binOp .eql 22 (.slice A0 l0.length c0) (.slice none 0 0)).run Try.prog W = .ok (.bool A0.isNone) W := fun W => Go.Lib.run_eql_slice_nil W 22 36 A0 l0.length c0 0 0 Try.underlying22
  unfold slices_Clone_uint32_uint32.f at h
  by_cases hlim : l0.length < 35184372088832
  · rw [if_pos hlim] at h
    obtain rfl := Option.some.inj h
    cases hA : A0 with
    | none =>
      subst hA
      have h0 : l0 = [] := by
        obtain ⟨_, _, h3⟩ := hr0
        cases l0 with
        | nil => rfl
        | cons x xs => obtain ⟨ad, he, _⟩ := h3 (by simp); cases he
      subst h0
      simp only [Option.isNone_none, List.length_nil] at hnil
      clear h hr0 hc0 hlim
      go_enter Try.func21, Try.ntmps21
      go_wp2
      go_ret
      exact ⟨_, rfl, Kd.R_nil _ _ _ _ _, by repeat (first | exact Below.refl _ _ | apply below_alloc | apply pw_below_drewN | apply below_drew1)⟩
    | some ad =>
      subst hA
      simp only [Option.isNone_some] at hnil
      have HR0 := Aside0.mk hr0
      have HC0 := Aside0.mk hc0
      obtain ⟨y158, hy158⟩ : ∃ y_ : List Int, y_ = (([] : List Int)) := ⟨_, rfl⟩
      have HLIM := Aside0.mk (show y158.length + l0.length < 35184372088832 by rw [hy158]; simpa using hlim)
      have Ny161 := Aside0.mk (show y158 ++ l0 = l0 by rw [hy158]; rfl)
      have Ny158 := Aside0.mk hy158
      clear hr0 hc0 hlim h hy158
      have HB := Aside0.mk (Below.refl w.heap.size w)
      go_enter Try.func21, Try.ntmps21
      go_wp2_with (first | ((with_reducible refine gate_dst (N := 5) rfl ?_); refine Kd.R_lit (Kd.int .u32) _ 36 ?hg (N := 5) ?hd (xs := ([] : List Int)) (inner := []) (ok := fun _ => True) (okp := fun _ => True) ?hr ?hp (fun _ hk => hk) trivial (Below.refl _ _) (Nat.le_refl _) (by simp) ?_; (case hd => rfl); (case hg => rfl); (case hr => first | (go_simp; done) | (go_simp; rfl)); (case hp => exact (Reps.none _ _)); intro v159 w3 ho4 hb hg_ hnew_; clear hg_ hnew_; rw [← Ny158.out] at ho4; have n0_ := Aside0.mk (Kd.R_lower ho4 (below_size (by repeat (first | (with_reducible first | exact HB.out | apply below_alloc | apply pw_below_drewN | apply below_drew1) | exact HB.out)))); have n1_ := Aside0.mk (below_step (by repeat (first | (with_reducible first | exact HB.out | apply below_alloc | apply pw_below_drewN | apply below_drew1) | exact HB.out)) hb); clear HB; have HO160 := n0_; have HB := n1_; clear n0_ n1_; clear hb ho4) | ((with_reducible refine gate_builtin (b := .append) (xs := #[.tmp 5, .tmp 6]) rfl ?_); at_builtin; refine Kd.R_append_rows (Kd.int .u32) (w0 := w) w.heap.size rfl (.tmp 5) (.tmp 6) 22 36 (.int .u32 0) 4 rfl Try.underlying22 info36 rfl (by decide) (by omega) v159 y158 l0 _ _ _ (fun _ => True) (fun _ => False) rfl rfl ?aO ?aR (fun _ _ h => h) (fun _ h => h.elim) ?aF ?aB ?aS ?aL ?_; (case aR => repeat (first | exact (Kd.C_below HR0.out HB.out) | (with_reducible refine Kd.C_alloc ?_ _) | (with_reducible refine Kd.C_drewN ?_ _) | (with_reducible refine Kd.C_drew ?_))); (case aB => exact (by repeat (first | (with_reducible first | exact HB.out | apply below_alloc | apply pw_below_drewN | apply below_drew1) | exact HB.out))); (case aF => exact (fun _ _ => trivial)); (case aO => exact (by (with_reducible repeat (first | apply Kd.R_alloc | apply Kd.R_drewN | apply Kd.R_drew)); exact HO160.out)); (case aS => exact (below_size (by repeat (first | (with_reducible first | exact HB.out | apply below_alloc | apply pw_below_drewN | apply below_drew1) | exact HB.out)))); (case aL => have := HLIM.out; omega); intro v162 w5 ho hb hg hat; rw [Ny161.out] at ho; have n0_ := Aside0.mk (hb); have n1_ := Aside0.mk (ho); clear HB; clear HO160; have HB := n0_; have HO163 := n1_; clear n0_ n1_; clear ho hb hg hat))
      go_ret
      exact ⟨_, rfl, by (with_reducible repeat (first | apply Kd.R_alloc | apply Kd.R_drewN | apply Kd.R_drew)); exact HO163.out, by repeat (first | (with_reducible first | exact HB.out | apply below_alloc | apply pw_below_drewN | apply below_drew1) | exact HB.out)⟩
  · rw [if_neg hlim] at h
    exact absurd h (by simp)
end Go.Proofs.Ytggicfmbdmjhkaa.F
