/- Walk: catalog.Read as one plain function. -/
import Derived.Test.YthggicgbcgeggaaVB4
import Derived.Laws.BytesString
import Derived.Laws.Strings
set_option linter.unusedVariables false
set_option linter.unusedSimpArgs false
namespace Go.Proofs.Ythggicgbcgeggaa
open Go.RowKit
open K
def str4 (l : List Int) : ByteArray := ((((ByteArray.empty.push (UInt8.ofNat (nth l 0).toNat)).push (UInt8.ofNat (nth l 1).toNat)).push (UInt8.ofNat (nth l 2).toNat)).push (UInt8.ofNat (nth l 3).toNat))
theorem conv_four (w : World) (ad : Addr) (n c : Nat) (l : List Int) (h : RB w (some ad) n l) (hn : 4 ≤ n) : (convert 25 9 (.slice (some ad) 4 c)).run Try.prog w = .ok (.string (str4 l)) w := by
  rw [run_convert_bytes_string w 25 9 5 _ _ _ Try.underlying25 Try.underlying5 Try.underlying9]
  have := run_bytesToString (P := Try.prog) w ad 4 c [nth l 0, nth l 1, nth l 2, nth l 3] (run_loadCells_list w ad [.int .u8 (nth l 0), .int .u8 (nth l 1), .int .u8 (nth l 2), .int .u8 (nth l 3)] (fun j v hj => by
    have hj4 : j < 4 := by have := (List.getElem?_eq_some_iff.1 hj).1; simpa using this
    obtain ⟨ad', e, hc⟩ := h.cell j (by omega)
    obtain rfl : ad = ad' := by injection e
    rw [hc]
    have : j = 0 ∨ j = 1 ∨ j = 2 ∨ j = 3 := by omega
    rcases this with rfl | rfl | rfl | rfl <;> simpa using hj))
  exact this
theorem byte_eq {x : Int} (h0 : 0 ≤ x) (h1 : x ≤ 255) (k : Nat) (hk : k < 256) (h : UInt8.ofNat x.toNat = UInt8.ofNat k) : x = k := by
  have := congrArg UInt8.toNat h
  simp only [UInt8.toNat_ofNat'] at this
  omega
theorem str4_eq (l : List Int) (hb : BY l) (hl : 4 ≤ l.length) : (str4 l = ⟨#[70, 67, 65, 84]⟩) ↔ l.take 4 = [70, 67, 65, 84] := by
  have ht : l.take 4 = [nth l 0, nth l 1, nth l 2, nth l 3] := by
    rw [take_snocI l 3 (by omega), take_snocI l 2 (by omega), take_snocI l 1 (by omega), take_snocI l 0 (by omega)]; rfl
  rw [ht]
  constructor
  · intro h
    have h2 : (#[UInt8.ofNat (nth l 0).toNat, UInt8.ofNat (nth l 1).toNat, UInt8.ofNat (nth l 2).toNat, UInt8.ofNat (nth l 3).toNat] : Array UInt8) = #[70, 67, 65, 84] := congrArg ByteArray.data h
    have h3 := congrArg Array.toList h2
    simp only [List.cons.injEq, and_true] at h3
    obtain ⟨a, b, c, d⟩ := h3
    rw [byte_eq (hb.nth 0).1 (hb.nth 0).2 70 (by omega) a, byte_eq (hb.nth 1).1 (hb.nth 1).2 67 (by omega) b, byte_eq (hb.nth 2).1 (hb.nth 2).2 65 (by omega) c, byte_eq (hb.nth 3).1 (hb.nth 3).2 84 (by omega) d]
    rfl
  · intro h
    simp only [List.cons.injEq, and_true] at h
    obtain ⟨a, b, c, d⟩ := h
    unfold str4
    rw [a, b, c, d]
    rfl
/-- what reading a catalog's bytes gives: the error's number, gen, first, the segments -/
def readI (l : List Int) : Int × Int × Int × Option (List Sg) :=
  if l.length < 8 then (2, 0, 0, none) else if l.take 4 ≠ [70, 67, 65, 84] then (4, 0, 0, none) else if (rdL (l.drop (l.length - 4)) 0 0 4).1 ≠ iu (more 0#32 (l.take (l.length - 4))) then (5, 0, 0, none) else bodyI ((l.drop 4).take (l.length - 8))
theorem below_on {B : Nat} {w w1 w2 : World} (k : Below w1.heap.size w1 w2) (h : Below B w w1) (hB : B ≤ w1.heap.size) : Below B w w2 := below_to h hB k
theorem CR.form {w : World} {base : Nat} {v : Value} {gen first : Int} {o : Option (List Sg)} (h : CR w base v gen first o) : ∃ a b u, v = .agg #[.int .i64 a, .int .i64 b, u] ∧ u.cells.size = 1 ∧ (∀ k, u.ownBlock = some k → base ≤ k) := by
  cases o with
  | none => exact ⟨0, 0, _, h, rfl, fun k e => by cases e⟩
  | some ss =>
    obtain ⟨u, e, ho⟩ := h
    obtain ⟨A, n, c, rfl⟩ := ho.form
    exact ⟨_, _, _, e, rfl, fun k e => (own_blk_lt ho k e).1⟩
theorem CR.slice {w : World} {base : Nat} {v : Value} {gen first : Int} {o : Option (List Sg)} (h : CR w base v gen first o) : ∃ a b A n c, v = .agg #[.int .i64 a, .int .i64 b, .slice A n c] := by
  cases o with
  | none => exact ⟨0, 0, _, _, _, h⟩
  | some ss =>
    obtain ⟨u, e, ho⟩ := h
    obtain ⟨A, n, c, rfl⟩ := ho.form
    exact ⟨_, _, _, _, _, e⟩
theorem CR.fin {w : World} {base base' : Nat} {v : Value} {gen first : Int} {o : Option (List Sg)} (h : CR w base v gen first o) {g : Nat} (hg : g < base) (hb : base' ≤ base) (a b c : Value) :
    CR (((w.setCell ⟨g, 0, none⟩ a).setCell ⟨g, 1, none⟩ b).setCell ⟨g, 2, none⟩ c) base' v gen first o := by
  cases o with
  | none => exact h
  | some ss =>
    obtain ⟨u, e, ho⟩ := h
    exact ⟨u, e, (ho.lower hb).put3 (fun e2 => by have := (own_blk_lt ho g e2).1; omega) a b c⟩
set_option maxRecDepth 20000 in
set_option maxHeartbeats 2000000 in
theorem cread_any (A : Option Addr) (n c : Nat) (l : List Int) (w : World) (hl : RB w A n l) (hc : n ≤ c) :
    Calls Try.prog 68 #[.slice A n c] w fun ex w' => ∃ v, ex = .returned (.tuple #[v, .int .i64 (readI l).1]) ∧ CR w' w.heap.size v (readI l).2.1 (readI l).2.2.1 (readI l).2.2.2 ∧ Below w.heap.size w w' := by
  have HL := Lib.hid hl.len
  have hy := hl.by_
  have htop := hl.top
  have hb0 := below_alloc1 w (.cells #[.int .i64 0, .int .i64 0, .slice none 0 0] 78)
  have HT0 := Lib.hid (heap_alloc_new w (.cells #[.int .i64 0, .int .i64 0, .slice none 0 0] 78))
  by_cases h8 : n < 8
  · have H : Hid (readI l = (2, 0, 0, none)) := Lib.hid (by unfold readI; rw [if_pos (by have := HL.out; omega)])
    have hlt : (n : Int) - 4 < 4 := by omega
    rw [H.out]
    go_enter Try.func68, Try.ntmps68
    go_wp2_with fail
    have c0' := blk_cell HT0.out 0 (v := some (.int .i64 0)) rfl
    have c1' := blk_cell HT0.out 1 (v := some (.int .i64 0)) rfl
    have c2' := blk_cell HT0.out 2 (v := some (.slice none 0 0)) rfl
    exact bodyPost_ret (v := .tuple #[.agg #[.int .i64 0, .int .i64 0, .slice none 0 0], .int .i64 2]) (by simp [results, Try.results68, go_sem, c0', c1', c2']) rfl ⟨_, rfl, rfl, hb0⟩
  · obtain ⟨e, rfl⟩ : ∃ e, n = e + 4 := ⟨n - 4, by omega⟩
    have he : ((e + 4 : Nat) : Int) - 4 = (e : Int) := by omega
    have hge : ¬ (e : Int) < 4 := by omega
    have hce : ¬ c = e := by omega
    have hec : e ≤ c := by omega
    have he1 : (e : Int) ≤ (e : Int) + 4 := by omega
    have h4e : 4 ≤ e := by omega
    have h4c : ¬ c = 4 := by omega
    obtain ⟨ad, rfl, -⟩ := hl.cell 0 (by omega)
    have hcv := conv_four (w.alloc (.cells #[.int .i64 0, .int .i64 0, .slice none 0 0] 78)) ad (e + 4) c l (hl.below hb0) (by omega)
    generalize hS : str4 l = S at hcv
    by_cases hmg : l.take 4 = [70, 67, 65, 84]
    · have hSe : S = ⟨#[70, 67, 65, 84]⟩ := by rw [← hS]; exact (str4_eq l hy (by have := HL.out; omega)).2 hmg
      subst hSe
      clear hS
      have hz := hl.below hb0
      have hE : RB (w.alloc (.cells #[.int .i64 0, .int .i64 0, .slice none 0 0] 78)) (some (ad.add e)) 4 (l.drop e) := by
        have := hz.sub e 4 (by omega)
        rwa [List.take_of_length_le (by have := HL.out; simp; omega)] at this
      have hD : RB (w.alloc (.cells #[.int .i64 0, .int .i64 0, .slice none 0 0] 78)) (some ad) e (l.take e) := hz.take e (by omega)
      obtain ⟨x, HX⟩ : ∃ x, Hid (rdL (l.drop e) 0 0 4 = (x, (rdL (l.drop e) 0 0 4).2.1, (rdL (l.drop e) 0 0 4).2.2)) := ⟨_, rfl⟩
      obtain ⟨y, HY⟩ : ∃ y, Hid (iu (more 0#32 (l.take e)) = y) := ⟨_, rfl⟩
      by_cases hxy : x = y
      · subst hxy
        have H : Hid (readI l = bodyI ((l.drop 4).take (e - 4))) := Lib.hid (by
          unfold readI
          have hn := HL.out
          rw [if_neg (by omega), if_neg (fun h => h hmg), hn, show e + 4 - 4 = e by omega, show e + 4 - 8 = e - 4 by omega, HX.out, HY.out, if_neg (fun h => h rfl)])
        have hM : RB (w.alloc (.cells #[.int .i64 0, .int .i64 0, .slice none 0 0] 78)) (some (ad.add 4)) (e - 4) ((l.drop 4).take (e - 4)) := hz.sub 4 (e - 4) (by omega)
        rw [H.out]
        go_enter Try.func68, Try.ntmps68
        go_wp2_with fail
        go_region_held3 (fun w' => Below (w.alloc (.cells #[.int .i64 0, .int .i64 0, .slice none 0 0] 78)).heap.size (w.alloc (.cells #[.int .i64 0, .int .i64 0, .slice none 0 0] 78)) w') (first | assumption | exact (Below.refl _ _).drew) (first
          | (go_at_call 42; refine (newReader_rs (some (ad.add e)) 4 (c - e) _ _ (hE.below (by assumption))).mono ?_; rintro e1 w1 ⟨g, A2, c2, rfl, hg, hs1, hB1⟩; have hS1 : Below (w.alloc (.cells #[.int .i64 0, .int .i64 0, .slice none 0 0] 78)).heap.size (w.alloc (.cells #[.int .i64 0, .int .i64 0, .slice none 0 0] 78)) w1 := below_on hB1 (by assumption) (Below.size (B := (w.alloc (.cells #[.int .i64 0, .int .i64 0, .slice none 0 0] 78)).heap.size) (by assumption)); have hgz : (w.alloc (.cells #[.int .i64 0, .int .i64 0, .slice none 0 0] 78)).heap.size ≤ g := Nat.le_trans (Below.size (B := (w.alloc (.cells #[.int .i64 0, .int .i64 0, .slice none 0 0] 78)).heap.size) (by assumption)) hg)
          | (go_at_call 50; refine (fixed32R_any g A2 4 c2 (l.drop e) 0 0 _ (by first | exact hs1 | exact hs1.below hB3)).mono ?_; rw [HX.out]; rintro e2 w2 ⟨rfl, hs2, hg2⟩; have hS2 : Below (w.alloc (.cells #[.int .i64 0, .int .i64 0, .slice none 0 0] 78)).heap.size (w.alloc (.cells #[.int .i64 0, .int .i64 0, .slice none 0 0] 78)) w2 := below_grow (by assumption) (Below.size (B := (w.alloc (.cells #[.int .i64 0, .int .i64 0, .slice none 0 0] 78)).heap.size) (by assumption)) hg2 hgz)
          | (go_at_call 104; refine (sum_any (some ad) e c (l.take e) _ (hD.below (by assumption))).mono ?_; rw [HY.out]; rintro e3 w3 ⟨rfl, hB3⟩; have hS3 : Below (w.alloc (.cells #[.int .i64 0, .int .i64 0, .slice none 0 0] 78)).heap.size (w.alloc (.cells #[.int .i64 0, .int .i64 0, .slice none 0 0] 78)) w3 := below_on hB3 (by assumption) (Below.size (B := (w.alloc (.cells #[.int .i64 0, .int .i64 0, .slice none 0 0] 78)).heap.size) (by assumption))))
        all_goals first
          | (have ht := (hS3.block w.heap.size (lt_of_block HT0.out)).trans HT0.out; go_wp2_with (go_at_call 112; refine (body_any (some (ad.add 4)) (e - 4) (c - 4) _ _ (hM.below hS3) (by omega)).mono ?_; rintro e9 w9 ⟨v9, rfl, hC9, hB9⟩; obtain ⟨a9, b9, A9, n9, c9, rfl⟩ := hC9.slice; have ht9 := (hB9.block _ (lt_of_block ht)).trans ht; have z0 := blk_cell ht9 0 (v := some (.int .i64 0)) rfl; have z1 := blk_cell ht9 1 (v := some (.int .i64 0)) rfl; have z2 := blk_cell ht9 2 (v := some (.slice none 0 0)) rfl; have f0 := blk_free ht9 0; have f1 := blk_free ht9 1; have f2 := blk_free ht9 2); have c0' := blk_cell (three_put ht9 (.int .i64 a9) (.int .i64 b9) (.slice A9 n9 c9)) 0 (v := some (.int .i64 a9)) rfl; have c1' := blk_cell (three_put ht9 (.int .i64 a9) (.int .i64 b9) (.slice A9 n9 c9)) 1 (v := some (.int .i64 b9)) rfl; have c2' := blk_cell (three_put ht9 (.int .i64 a9) (.int .i64 b9) (.slice A9 n9 c9)) 2 (v := some (.slice A9 n9 c9)) rfl; exact bodyPost_ret (v := .tuple #[.agg #[.int .i64 a9, .int .i64 b9, .slice A9 n9 c9], .int .i64 (bodyI ((l.drop 4).take (e - 4))).1]) (by simp [results, Try.results68, go_sem, c0', c1', c2']) rfl ⟨_, rfl, hC9.fin (lt_of_block ht) (by have := lt_of_block ht; omega) _ _ _, three_below (below_to (hb0.trans (hS3.mono (Below.size hb0))) (by have := lt_of_block ht; omega) hB9) (Nat.le_refl _) _ _ _⟩)
          | (have ht := (hS2.block w.heap.size (lt_of_block HT0.out)).trans HT0.out; go_wp2_with (go_at_call 112; refine (body_any (some (ad.add 4)) (e - 4) (c - 4) _ _ (hM.below hS2) (by omega)).mono ?_; rintro e9 w9 ⟨v9, rfl, hC9, hB9⟩; obtain ⟨a9, b9, A9, n9, c9, rfl⟩ := hC9.slice; have ht9 := (hB9.block _ (lt_of_block ht)).trans ht; have z0 := blk_cell ht9 0 (v := some (.int .i64 0)) rfl; have z1 := blk_cell ht9 1 (v := some (.int .i64 0)) rfl; have z2 := blk_cell ht9 2 (v := some (.slice none 0 0)) rfl; have f0 := blk_free ht9 0; have f1 := blk_free ht9 1; have f2 := blk_free ht9 2); have c0' := blk_cell (three_put ht9 (.int .i64 a9) (.int .i64 b9) (.slice A9 n9 c9)) 0 (v := some (.int .i64 a9)) rfl; have c1' := blk_cell (three_put ht9 (.int .i64 a9) (.int .i64 b9) (.slice A9 n9 c9)) 1 (v := some (.int .i64 b9)) rfl; have c2' := blk_cell (three_put ht9 (.int .i64 a9) (.int .i64 b9) (.slice A9 n9 c9)) 2 (v := some (.slice A9 n9 c9)) rfl; exact bodyPost_ret (v := .tuple #[.agg #[.int .i64 a9, .int .i64 b9, .slice A9 n9 c9], .int .i64 (bodyI ((l.drop 4).take (e - 4))).1]) (by simp [results, Try.results68, go_sem, c0', c1', c2']) rfl ⟨_, rfl, hC9.fin (lt_of_block ht) (by have := lt_of_block ht; omega) _ _ _, three_below (below_to (hb0.trans (hS2.mono (Below.size hb0))) (by have := lt_of_block ht; omega) hB9) (Nat.le_refl _) _ _ _⟩)
      · have hxb : (x != y) = true := by simpa using hxy
        have H : Hid (readI l = (5, 0, 0, none)) := Lib.hid (by
          unfold readI
          have hn := HL.out
          rw [if_neg (by omega), if_neg (fun h => h hmg), hn, show e + 4 - 4 = e by omega, HX.out, HY.out, if_pos hxy])
        rw [H.out]
        go_enter Try.func68, Try.ntmps68
        go_wp2_with fail
        go_region_held3 (fun w' => Below (w.alloc (.cells #[.int .i64 0, .int .i64 0, .slice none 0 0] 78)).heap.size (w.alloc (.cells #[.int .i64 0, .int .i64 0, .slice none 0 0] 78)) w') (first | assumption | exact (Below.refl _ _).drew) (first
          | (go_at_call 42; refine (newReader_rs (some (ad.add e)) 4 (c - e) _ _ (hE.below (by assumption))).mono ?_; rintro e1 w1 ⟨g, A2, c2, rfl, hg, hs1, hB1⟩; have hS1 : Below (w.alloc (.cells #[.int .i64 0, .int .i64 0, .slice none 0 0] 78)).heap.size (w.alloc (.cells #[.int .i64 0, .int .i64 0, .slice none 0 0] 78)) w1 := below_on hB1 (by assumption) (Below.size (B := (w.alloc (.cells #[.int .i64 0, .int .i64 0, .slice none 0 0] 78)).heap.size) (by assumption)); have hgz : (w.alloc (.cells #[.int .i64 0, .int .i64 0, .slice none 0 0] 78)).heap.size ≤ g := Nat.le_trans (Below.size (B := (w.alloc (.cells #[.int .i64 0, .int .i64 0, .slice none 0 0] 78)).heap.size) (by assumption)) hg)
          | (go_at_call 50; refine (fixed32R_any g A2 4 c2 (l.drop e) 0 0 _ (by first | exact hs1 | exact hs1.below hB3)).mono ?_; rw [HX.out]; rintro e2 w2 ⟨rfl, hs2, hg2⟩; have hS2 : Below (w.alloc (.cells #[.int .i64 0, .int .i64 0, .slice none 0 0] 78)).heap.size (w.alloc (.cells #[.int .i64 0, .int .i64 0, .slice none 0 0] 78)) w2 := below_grow (by assumption) (Below.size (B := (w.alloc (.cells #[.int .i64 0, .int .i64 0, .slice none 0 0] 78)).heap.size) (by assumption)) hg2 hgz)
          | (go_at_call 104; refine (sum_any (some ad) e c (l.take e) _ (hD.below (by assumption))).mono ?_; rw [HY.out]; rintro e3 w3 ⟨rfl, hB3⟩; have hS3 : Below (w.alloc (.cells #[.int .i64 0, .int .i64 0, .slice none 0 0] 78)).heap.size (w.alloc (.cells #[.int .i64 0, .int .i64 0, .slice none 0 0] 78)) w3 := below_on hB3 (by assumption) (Below.size (B := (w.alloc (.cells #[.int .i64 0, .int .i64 0, .slice none 0 0] 78)).heap.size) (by assumption))))
        all_goals first
          | (have ht := (hS3.block w.heap.size (lt_of_block HT0.out)).trans HT0.out; have z0 := blk_cell ht 0 (v := some (.int .i64 0)) rfl; have z1 := blk_cell ht 1 (v := some (.int .i64 0)) rfl; have z2 := blk_cell ht 2 (v := some (.slice none 0 0)) rfl; have f0 := blk_free ht 0; have f1 := blk_free ht 1; have f2 := blk_free ht 2; go_wp2_with fail; have c0' := blk_cell (three_put ht (.int .i64 0) (.int .i64 0) (.slice none 0 0)) 0 (v := some (.int .i64 0)) rfl; have c1' := blk_cell (three_put ht (.int .i64 0) (.int .i64 0) (.slice none 0 0)) 1 (v := some (.int .i64 0)) rfl; have c2' := blk_cell (three_put ht (.int .i64 0) (.int .i64 0) (.slice none 0 0)) 2 (v := some (.slice none 0 0)) rfl; exact bodyPost_ret (v := .tuple #[.agg #[.int .i64 0, .int .i64 0, .slice none 0 0], .int .i64 5]) (by simp [results, Try.results68, go_sem, c0', c1', c2']) rfl ⟨_, rfl, rfl, three_below (hb0.trans (hS3.mono (Below.size hb0))) (Nat.le_refl _) _ _ _⟩)
          | (have ht := (hS2.block w.heap.size (lt_of_block HT0.out)).trans HT0.out; have z0 := blk_cell ht 0 (v := some (.int .i64 0)) rfl; have z1 := blk_cell ht 1 (v := some (.int .i64 0)) rfl; have z2 := blk_cell ht 2 (v := some (.slice none 0 0)) rfl; have f0 := blk_free ht 0; have f1 := blk_free ht 1; have f2 := blk_free ht 2; go_wp2_with fail; have c0' := blk_cell (three_put ht (.int .i64 0) (.int .i64 0) (.slice none 0 0)) 0 (v := some (.int .i64 0)) rfl; have c1' := blk_cell (three_put ht (.int .i64 0) (.int .i64 0) (.slice none 0 0)) 1 (v := some (.int .i64 0)) rfl; have c2' := blk_cell (three_put ht (.int .i64 0) (.int .i64 0) (.slice none 0 0)) 2 (v := some (.slice none 0 0)) rfl; exact bodyPost_ret (v := .tuple #[.agg #[.int .i64 0, .int .i64 0, .slice none 0 0], .int .i64 5]) (by simp [results, Try.results68, go_sem, c0', c1', c2']) rfl ⟨_, rfl, rfl, three_below (hb0.trans (hS2.mono (Below.size hb0))) (Nat.le_refl _) _ _ _⟩)
    · have hSn : ¬ S = ⟨#[70, 67, 65, 84]⟩ := by rw [← hS]; exact fun h => hmg ((str4_eq l hy (by have := HL.out; omega)).1 h)
      have hSl : (S.toList == [70, 67, 65, 84]) = false := by
        rw [ByteArray.toList_eq]
        apply Bool.eq_false_iff.2
        intro h
        exact hSn (by cases S with | mk d => have h2 := eq_of_beq h; simp only at h2; rw [show d = #[70, 67, 65, 84] from Array.ext' h2])
      have H : Hid (readI l = (4, 0, 0, none)) := Lib.hid (by unfold readI; rw [if_neg (by have := HL.out; omega), if_pos hmg])
      rw [H.out]
      go_enter Try.func68, Try.ntmps68
      go_wp2_with fail
      have c0' := blk_cell HT0.out 0 (v := some (.int .i64 0)) rfl
      have c1' := blk_cell HT0.out 1 (v := some (.int .i64 0)) rfl
      have c2' := blk_cell HT0.out 2 (v := some (.slice none 0 0)) rfl
      exact bodyPost_ret (v := .tuple #[.agg #[.int .i64 0, .int .i64 0, .slice none 0 0], .int .i64 4]) (by simp [results, Try.results68, go_sem, c0', c1', c2']) rfl ⟨_, rfl, rfl, hb0⟩
end Go.Proofs.Ythggicgbcgeggaa
