/- Walk: flumelaw1.one on a nil reader; flumelaw1.WireNone returns true. -/
import Derived.Test.YthggicgbcgeggaaV24
set_option linter.unusedVariables false
set_option linter.unusedSimpArgs false
namespace Go.Proofs.Ythggicgbcgeggaa
open Go.RowKit
theorem rdN_nil (most : Int) : (rdN [] 0 0 most).1 = 0 := by simp [rdN, rvI_nil]
theorem rdL_nil (sz : Nat) (h : 0 < sz) : (rdL [] 0 0 sz).1 = 0 := by simp [rdL, h]
theorem rdS_nil (most : Int) : (rdS [] 0 0 most).1 = [] := by
  by_cases h : most < 0
  · simp [rdS, rsI, h]
  · simp [rdS, rsI, h, rvI_nil]
theorem KB.qfar {w w' : World} {base kb h : Nat} {lv s : Value} {sz p b : Int} {T : Nat} {ks : List KL} (hK : KB w base kb lv sz T ks) (hq : QD w h s p b) (hg : w.grownBy w' (some h)) : KB w' base kb lv sz T ks := by
  have hF : Fr w w' (fun k => k = h) := Fr.of_grown hg (fun k e => by injection e with e; exact e.symm)
  refine hK.fr hF (fun e => ?_) (fun k hk e => ?_) (fun i hi e => ?_)
  · subst e; exact absurd (blk_type hq hK.blk) (by decide)
  · subst e
    obtain ⟨c5, h5⟩ := own_type hK.row hk
    exact absurd (blk_type hq h5) (by decide)
  · obtain ⟨c5, h5⟩ := own_type (hK.own i hi) (k := (ks.getD i kd).g) rfl
    rw [e] at h5
    exact absurd (blk_type hq h5) (by decide)
theorem QS.kfar {w w' : World} {base kb h : Nat} {lv : Value} {sz : Int} {ks : List KL} {o : Obj} (hq : QS w h none 0 0 [] 0 0) (hK : KB w base kb lv sz 4194304 ks) (hF : Fr (w.alloc o) w' (KP kb lv)) : QS w' h none 0 0 [] 0 0 :=
  ⟨(hF.block h (lt_of_block (blk_old hq.rd o)) (fun e => by
    rcases e with e | e
    · have h1 := hK.blk
      rw [← e] at h1
      exact absurd (blk_type hq.rd h1) (by decide)
    · obtain ⟨c5, h5⟩ := own_type hK.row e
      exact absurd (blk_type hq.rd h5) (by decide))).trans (blk_old hq.rd o), RB_nil _, Nat.le_refl _, Nat.le_refl _⟩
/-- one's post on a nil reader -/
def OneN (w : World) (base kb h : Nat) (lv : Value) (e : Ending) (w' : World) : Prop := e = .returned (.bool true) ∧ ∃ lv' sz' ks', KB w' base kb lv' sz' 4194304 ks' ∧ Fr w w' (fun k => k = h ∨ KP kb lv k)
variable {w : World} {base h kb : Nat} {lv : Value} {sz : Int} {ks : List KL}
/-- a call on the nil reader, then one on the document's -/
theorem oneN_end {w1 w3 w4 : World} {n' c' : Nat} {A' : Option Addr} {l' : List Int} {p' : Nat} {b' : Int} {e : Ending} (hb1 : Below w.heap.size w w1) (hb3 : Below w1.heap.size w1 w3) (hK : KB w base kb lv sz 4194304 ks) (hq3 : QS w3 h none 0 0 [] 0 0) (hg4 : w3.grownBy w4 (some h)) (he : e = .returned (.bool true)) : OneN w base kb h lv e w4 := by
  have hw3 := below_to hb1 hb1.size hb3
  exact ⟨he, _, _, _, ((hK.below hb1).below hb3).qfar hq3.rd hg4, (Fr.of_below hw3 _).trans (Fr.of_grown hg4 (P := fun k => k = h) (fun k e => by injection e with e; exact e.symm)) (fun _ _ e => .inl e)⟩
set_option maxHeartbeats 2000000 in
theorem oneN_varint (most size : Int) (hq : QS w h none 0 0 [] 0 0) (hK : KB w base kb lv sz 4194304 ks) (hbs : base ≤ w.heap.size) :
    Calls Try.prog 43 #[.pointer none, .pointer (some ⟨h, 0, none⟩), .agg #[.int .i64 1, .int .u64 most, .int .i64 size], .pointer (some ⟨kb, 0, none⟩)] w fun e w' => OneN w base kb h lv e w' := by
  have hb1 := below_alloc1 w (.cells #[.int .i64 1, .int .u64 most, .int .i64 size] 59)
  have hn := heap_alloc_new w (.cells #[.int .i64 1, .int .u64 most, .int .i64 size] 59)
  have HN := Lib.hid hn
  have hhl : h ≠ w.heap.size := by have := lt_of_block hq.rd; omega
  have HGL := Lib.hid hhl
  have hq1 := hq.below hb1
  clear hn hhl
  have hz := rdN_nil most
  have HZ := Lib.hid hz
  clear hz
  go_enter Try.func43, Try.ntmps43
  go_wp2_with fail
  have hq1d := hq1.drew
  have hb1d := hb1.drew
  have hb0 := blk_cell HN.out 1 (v := some (.int .u64 most)) rfl
  go_region_held3 (fun w' => w'.cell? ⟨w.heap.size, 1, none⟩ = some (.int .u64 most)) (first | exact ob4 | exact ob3 | exact hb0)
    (first
      | (go_at_call 48; refine (varintN most _).mono ?_; rintro e w3 ⟨rfl, hb3⟩; have hq3 := hq1d.below hb3; have hr3 : w3.heap[w.heap.size]? = _ := (hb3.block _ (lt_of_block HN.out)).trans HN.out; have HR3 := Lib.hid hr3; have ob3 := blk_cell hr3 1 (v := some (.int .u64 most)) rfl; clear hr3)
      | (go_at_call 88; refine (qvarint_any h none 0 0 [] 0 0 most _ hq3).mono ?_; rw [HZ.out]; rintro e w4 ⟨rfl, hr4, hg4⟩; have hr4' := far_row hg4 HR3.out HGL.out.symm; have ob4 := blk_cell hr4' 1 (v := some (.int .u64 most)) rfl; clear hr4'))
  all_goals go_wp2_with fail
  go_ret
  exact oneN_end (n' := 0) (c' := 0) (A' := none) (l' := []) (p' := 0) (b' := 0) hb1d hb3 hK hq3 hg4 rfl
set_option maxHeartbeats 2000000 in
theorem oneN_signed (most size : Int) (hq : QS w h none 0 0 [] 0 0) (hK : KB w base kb lv sz 4194304 ks) (hbs : base ≤ w.heap.size) :
    Calls Try.prog 43 #[.pointer none, .pointer (some ⟨h, 0, none⟩), .agg #[.int .i64 2, .int .u64 most, .int .i64 size], .pointer (some ⟨kb, 0, none⟩)] w fun e w' => OneN w base kb h lv e w' := by
  have hb1 := below_alloc1 w (.cells #[.int .i64 2, .int .u64 most, .int .i64 size] 59)
  have hn := heap_alloc_new w (.cells #[.int .i64 2, .int .u64 most, .int .i64 size] 59)
  have HN := Lib.hid hn
  have hhl : h ≠ w.heap.size := by have := lt_of_block hq.rd; omega
  have HGL := Lib.hid hhl
  have hq1 := hq.below hb1
  clear hn hhl
  have hz : zagI (rdN [] 0 0 18446744073709551615).1 = 0 := by rw [rdN_nil]; rfl
  have HZ := Lib.hid hz
  clear hz
  go_enter Try.func43, Try.ntmps43
  go_wp2_with (first
    | (go_at_call 49; refine (signedN _).mono ?_; rintro e w3 ⟨rfl, hb3⟩; have hq3 := hq1.below hb3)
    | (go_at_call 89; refine (qsigned_any h none 0 0 [] 0 0 _ hq3).mono ?_; rw [HZ.out]; rintro e w4 ⟨rfl, hr4, hg4⟩))
  go_ret
  exact oneN_end (n' := 0) (c' := 0) (A' := none) (l' := []) (p' := 0) (b' := 0) hb1 hb3 hK hq3 hg4 rfl
set_option maxHeartbeats 2000000 in
theorem oneN_fixed32 (most size : Int) (hq : QS w h none 0 0 [] 0 0) (hK : KB w base kb lv sz 4194304 ks) (hbs : base ≤ w.heap.size) :
    Calls Try.prog 43 #[.pointer none, .pointer (some ⟨h, 0, none⟩), .agg #[.int .i64 3, .int .u64 most, .int .i64 size], .pointer (some ⟨kb, 0, none⟩)] w fun e w' => OneN w base kb h lv e w' := by
  have hb1 := below_alloc1 w (.cells #[.int .i64 3, .int .u64 most, .int .i64 size] 59)
  have hn := heap_alloc_new w (.cells #[.int .i64 3, .int .u64 most, .int .i64 size] 59)
  have HN := Lib.hid hn
  have hhl : h ≠ w.heap.size := by have := lt_of_block hq.rd; omega
  have HGL := Lib.hid hhl
  have hq1 := hq.below hb1
  clear hn hhl
  have hz := rdL_nil 4 (by omega)
  have HZ := Lib.hid hz
  clear hz
  go_enter Try.func43, Try.ntmps43
  go_wp2_with (first
    | (go_at_call 50; refine (fixed32N _).mono ?_; rintro e w3 ⟨rfl, hb3⟩; have hq3 := hq1.below hb3)
    | (go_at_call 90; refine (qfixed_any h none 0 0 [] 0 0 4 _ hq3 (by omega) (by omega)).mono ?_; rw [HZ.out]; rintro e w4 ⟨rfl, hr4, hg4⟩))
  go_ret
  exact oneN_end (n' := 0) (c' := 0) (A' := none) (l' := []) (p' := 0) (b' := 0) hb1 hb3 hK hq3 hg4 rfl
set_option maxHeartbeats 2000000 in
theorem oneN_fixed64 (most size : Int) (hq : QS w h none 0 0 [] 0 0) (hK : KB w base kb lv sz 4194304 ks) (hbs : base ≤ w.heap.size) :
    Calls Try.prog 43 #[.pointer none, .pointer (some ⟨h, 0, none⟩), .agg #[.int .i64 4, .int .u64 most, .int .i64 size], .pointer (some ⟨kb, 0, none⟩)] w fun e w' => OneN w base kb h lv e w' := by
  have hb1 := below_alloc1 w (.cells #[.int .i64 4, .int .u64 most, .int .i64 size] 59)
  have hn := heap_alloc_new w (.cells #[.int .i64 4, .int .u64 most, .int .i64 size] 59)
  have HN := Lib.hid hn
  have hhl : h ≠ w.heap.size := by have := lt_of_block hq.rd; omega
  have HGL := Lib.hid hhl
  have hq1 := hq.below hb1
  clear hn hhl
  have hz := rdL_nil 8 (by omega)
  have HZ := Lib.hid hz
  clear hz
  go_enter Try.func43, Try.ntmps43
  go_wp2_with (first
    | (go_at_call 51; refine (fixed64N _).mono ?_; rintro e w3 ⟨rfl, hb3⟩; have hq3 := hq1.below hb3)
    | (go_at_call 90; refine (qfixed_any h none 0 0 [] 0 0 8 _ hq3 (by omega) (by omega)).mono ?_; rw [HZ.out]; rintro e w4 ⟨rfl, hr4, hg4⟩))
  go_ret
  exact oneN_end (n' := 0) (c' := 0) (A' := none) (l' := []) (p' := 0) (b' := 0) hb1 hb3 hK hq3 hg4 rfl
set_option maxHeartbeats 2000000 in
theorem oneN_byte (most size : Int) (hq : QS w h none 0 0 [] 0 0) (hK : KB w base kb lv sz 4194304 ks) (hbs : base ≤ w.heap.size) :
    Calls Try.prog 43 #[.pointer none, .pointer (some ⟨h, 0, none⟩), .agg #[.int .i64 6, .int .u64 most, .int .i64 size], .pointer (some ⟨kb, 0, none⟩)] w fun e w' => OneN w base kb h lv e w' := by
  have hb1 := below_alloc1 w (.cells #[.int .i64 6, .int .u64 most, .int .i64 size] 59)
  have hn := heap_alloc_new w (.cells #[.int .i64 6, .int .u64 most, .int .i64 size] 59)
  have HN := Lib.hid hn
  have hhl : h ≠ w.heap.size := by have := lt_of_block hq.rd; omega
  have HGL := Lib.hid hhl
  have hq1 := hq.below hb1
  clear hn hhl
  have hz := rdL_nil 1 (by omega)
  have HZ := Lib.hid hz
  clear hz
  go_enter Try.func43, Try.ntmps43
  go_wp2_with (first
    | (go_at_call 92; refine (byteN _).mono ?_; rintro e w3 ⟨rfl, hb3⟩; have hq3 := hq1.below hb3)
    | (go_at_call 90; refine (qfixed_any h none 0 0 [] 0 0 1 _ hq3 (by omega) (by omega)).mono ?_; rw [HZ.out]; rintro e w4 ⟨rfl, hr4, hg4⟩))
  go_ret
  exact oneN_end (n' := 0) (c' := 0) (A' := none) (l' := []) (p' := 0) (b' := 0) hb1 hb3 hK hq3 hg4 rfl
set_option maxHeartbeats 2000000 in
theorem oneN_string (most size : Int) (z0 : -9223372036854775808 ≤ size) (z1 : size ≤ 9223372036854775807) (hq : QS w h none 0 0 [] 0 0) (hK : KB w base kb lv sz 4194304 ks) (hbs : base ≤ w.heap.size) :
    Calls Try.prog 43 #[.pointer none, .pointer (some ⟨h, 0, none⟩), .agg #[.int .i64 5, .int .u64 most, .int .i64 size], .pointer (some ⟨kb, 0, none⟩)] w fun e w' => OneN w base kb h lv e w' := by
  have hb1 := below_alloc1 w (.cells #[.int .i64 5, .int .u64 most, .int .i64 size] 59)
  have hn := heap_alloc_new w (.cells #[.int .i64 5, .int .u64 most, .int .i64 size] 59)
  have HN := Lib.hid hn
  have hhl : h ≠ w.heap.size := by have := lt_of_block hq.rd; omega
  have HGL := Lib.hid hhl
  have hq1 := hq.below hb1
  clear hn hhl
  have hz := rdS_nil size
  have HZ := Lib.hid hz
  clear hz
  have heq := eqI_self []
  have hob := blk_cell HN.out 2 (v := some (.int .i64 size)) rfl
  go_enter Try.func43, Try.ntmps43
  go_wp2_with (first
    | (go_at_call 52; refine (stringN size z0 z1 _).mono ?_; rintro e w3 ⟨rfl, hb3⟩; have hq3 := hq1.below hb3; have hr3 : w3.heap[w.heap.size]? = _ := (hb3.block _ (lt_of_block HN.out)).trans HN.out; have HR3 := Lib.hid hr3; have hw3 := Lib.hid (below_to hb1 hb1.size hb3); have hK3 := (hK.below hb1).below hb3; clear hr3)
    | (go_at_call 33; refine (keep_call2 base kb 1 w3.heap.size lv sz ks [⟨.slice none 0 0, []⟩] _ w3 (Nat.le_trans hbs hw3.out.size) hK3 (MD.one (at_ := w3.heap.size) (OB.nil _ _ _) (by simp) (Nat.le_trans hbs hw3.out.size) (Nat.le_refl _)) hK3.hks rfl (by omega) rfl).mono ?_; rintro e w4 ⟨rfl, lv4, sz4, new4, hK4, hF4⟩; have hr4 : w4.heap[w.heap.size]? = some (.cells #[.int .i64 5, .int .u64 most, .int .i64 size] 59 (0, 0)) := (hF4.block _ (lt_of_block (blk_old HR3.out _)) (hK3.not59 HR3.out)).trans (blk_old HR3.out _); have HR4 := Lib.hid hr4; have hob4 := blk_cell hr4 2 (v := some (.int .i64 size)) rfl; clear hr4; have hq4 := hq3.kfar hK3 hF4)
    | (go_at_call 91; refine (qstring_any h none 0 0 [] 0 0 size _ hq4 z0 z1).mono ?_; rw [HZ.out]; rintro e w5 ⟨v5, rfl, hO5, hr5, hg5⟩; obtain ⟨A5, n5, c5, rfl, hc5, hb5⟩ := hO5.readN (fun x hx => by simp at hx) (by simp); have hK5 := hK4.qfar hq4.rd hg5)
    | (go_at_call 26; refine (eq_any none A5 0 n5 0 c5 [] [] _ (RB_nil _) hb5).mono ?_; rw [heq]; rintro e w7 ⟨rfl, hb7⟩; have hK7 := hK5.below hb7))
  go_ret
  refine ⟨rfl, _, _, _, hK7, (((Fr.of_below hw3.out _).trans (Fr.of_below (below_alloc1 w3 _) (fun _ => False)) (fun _ _ e => e.elim)).trans hF4 (fun _ _ e => .inr e)).trans ((Fr.of_grown hg5 (P := fun k => k = h) (fun k e => by injection e with e; exact e.symm)).trans (Fr.of_below hb7 (fun _ => False)) (fun _ _ e => e.elim)) (fun _ _ e => .inl e)⟩
set_option maxHeartbeats 2000000 in
theorem oneN_other (kind most size : Int) (hk : kind < 1 ∨ 6 < kind) (hK : KB w base kb lv sz 4194304 ks) :
    Calls Try.prog 43 #[.pointer none, .pointer (some ⟨h, 0, none⟩), .agg #[.int .i64 kind, .int .u64 most, .int .i64 size], .pointer (some ⟨kb, 0, none⟩)] w fun e w' => OneN w base kb h lv e w' := by
  have hb1 := below_alloc1 w (.cells #[.int .i64 kind, .int .u64 most, .int .i64 size] 59)
  have d1 : (kind == 1) = false := by simp; omega
  have d2 : (kind == 2) = false := by simp; omega
  have d3 : (kind == 3) = false := by simp; omega
  have d4 : (kind == 4) = false := by simp; omega
  have d5 : (kind == 5) = false := by simp; omega
  have d6 : (kind == 6) = false := by simp; omega
  clear hk
  go_enter Try.func43, Try.ntmps43
  go_wp2_with fail
  go_ret
  exact ⟨rfl, _, _, _, hK.below hb1, Fr.of_below hb1 _⟩
theorem oneN_any (kind most size : Int) (z0 : -9223372036854775808 ≤ size) (z1 : size ≤ 9223372036854775807) (hq : QS w h none 0 0 [] 0 0) (hK : KB w base kb lv sz 4194304 ks) (hbs : base ≤ w.heap.size) :
    Calls Try.prog 43 #[.pointer none, .pointer (some ⟨h, 0, none⟩), .agg #[.int .i64 kind, .int .u64 most, .int .i64 size], .pointer (some ⟨kb, 0, none⟩)] w fun e w' => OneN w base kb h lv e w' := by
  have hk : kind = 1 ∨ kind = 2 ∨ kind = 3 ∨ kind = 4 ∨ kind = 5 ∨ kind = 6 ∨ (kind < 1 ∨ 6 < kind) := by omega
  rcases hk with rfl | rfl | rfl | rfl | rfl | rfl | hk
  · exact oneN_varint most size hq hK hbs
  · exact oneN_signed most size hq hK hbs
  · exact oneN_fixed32 most size hq hK hbs
  · exact oneN_fixed64 most size hq hK hbs
  · exact oneN_string most size z0 z1 hq hK hbs
  · exact oneN_byte most size hq hK hbs
  · exact oneN_other kind most size hk hK
end Go.Proofs.Ythggicgbcgeggaa
