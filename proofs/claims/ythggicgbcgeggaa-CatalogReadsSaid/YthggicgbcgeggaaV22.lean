/- Walk: flumelaw1.one: a reading call on both readers: the answers are alike. -/
import Derived.Test.YthggicgbcgeggaaV21
set_option linter.unusedVariables false
set_option linter.unusedSimpArgs false
namespace Go.Proofs.Ythggicgbcgeggaa
open Go.RowKit
/-- both readers, where they stand, and the kept lists -/
structure ST (w0 w : World) (base g h kb : Nat) (A A' : Option Addr) (n c c' : Nat) (l : List Int) (p : Nat) (b : Int) (q : Nat) (f : Int) (lv : Value) (sz : Int) (ks : List KL) : Prop where
  rs : RS w g A n c l p b
  qs : QS w h A' n c' l q f
  kb_ : KB w base kb lv sz 4194304 ks
  gl : g < base
  hl : h < base
  ne : g ≠ h
  al : 0 < n → ∀ ad, A = some ad → ad.block < base
  al' : 0 < n → ∀ ad, A' = some ad → ad.block < base
  low : w0.heap.size ≤ base
  h0 : w0.heap.size ≤ h
  hi : base ≤ w.heap.size
  bel : Fr w0 w (fun k => k = g)
theorem RS.drew' {w : World} {g : Nat} {A : Option Addr} {n c : Nat} {l : List Int} {p : Nat} {b : Int} (h : RS w g A n c l p b) : RS w.drew g A n c l p b := ⟨h.rd, h.rb.drew, h.hc, h.hp⟩
theorem QS.drew {w : World} {g : Nat} {A : Option Addr} {n c : Nat} {l : List Int} {p : Nat} {b : Int} (h : QS w g A n c l p b) : QS w.drew g A n c l p b := ⟨h.rd, h.rb.drew, h.hc, h.hp⟩
theorem block_of_add (a : Addr) (n : Nat) : (a.add n).block = a.block := by unfold Addr.add; split <;> rfl
theorem RB.lowB {w w' : World} {B : Nat} {A : Option Addr} {n : Nat} {l : List Int} (h : RB w A n l) (ha : 0 < n → ∀ ad, A = some ad → ad.block < B) (hb : Below B w w') : RB w' A n l :=
  ⟨h.len, h.top, fun j hj => by
    obtain ⟨ad, e, hc⟩ := h.cell j hj
    exact ⟨ad, e, (World.cell?_of_block (hb.block _ (by rw [block_of_add]; exact ha (by omega) ad e))).trans hc⟩, h.rng⟩
theorem RB.lt {w : World} {A : Option Addr} {n : Nat} {l : List Int} (h : RB w A n l) (hn : 0 < n) (ad : Addr) (e : A = some ad) : ad.block < w.heap.size := by
  obtain ⟨ad', e', hc⟩ := h.cell 0 hn
  rw [e] at e'
  injection e' with e'
  subst e'
  have := World.block_lt_of_cell? w _ hc
  rwa [block_of_add] at this
theorem far_row {w w' : World} {g k : Nat} {o : Obj} (hg : w.grownBy w' (some g)) (hk : w.heap[k]? = some o) (hne : k ≠ g) : w'.heap[k]? = some o := blk_grown hg hne hk
variable {w0 w w' : World} {base g h kb : Nat} {A A' : Option Addr} {n c c' : Nat} {l : List Int} {p p' : Nat} {b b' : Int} {q q' : Nat} {f f' : Int} {lv : Value} {sz : Int} {ks : List KL}
theorem ST.belw (s : ST w0 w base g h kb A A' n c c' l p b q f lv sz ks) (g0 : w0.heap.size ≤ g) : Below w0.heap.size w0 w := ⟨s.bel.os, s.bel.tape, s.bel.output, s.bel.size, fun k hk => s.bel.block k hk (fun e => by omega)⟩
theorem ST.drew (s : ST w0 w base g h kb A A' n c c' l p b q f lv sz ks) : ST w0 w.drew base g h kb A A' n c c' l p b q f lv sz ks :=
  ⟨s.rs.drew', s.qs.drew, s.kb_.drew, s.gl, s.hl, s.ne, s.al, s.al', s.low, s.h0, s.hi, s.bel.drew⟩
theorem ST.drewN (s : ST w0 w base g h kb A A' n c c' l p b q f lv sz ks) (k : Nat) : ST w0 (w.drewN k) base g h kb A A' n c c' l p b q f lv sz ks :=
  ⟨s.rs.drewN k, s.qs.drewN k, s.kb_.drewN k, s.gl, s.hl, s.ne, s.al, s.al', s.low, s.h0, s.hi, s.bel.drewN k⟩
theorem ST.below (s : ST w0 w base g h kb A A' n c c' l p b q f lv sz ks) (hb : Below w.heap.size w w') : ST w0 w' base g h kb A A' n c c' l p b q f lv sz ks :=
  ⟨s.rs.below hb, s.qs.below hb, s.kb_.below hb, s.gl, s.hl, s.ne, s.al, s.al', s.low, s.h0, Nat.le_trans s.hi hb.size, s.bel.trans (Fr.of_below hb (fun _ => False)) (fun _ _ e => e.elim)⟩
/-- behind a call on the program's reader -/
theorem ST.rstep (s : ST w0 w base g h kb A A' n c c' l p b q f lv sz ks) (hr : RS w' g A n c l p' b') (hg : w.grownBy w' (some g)) : ST w0 w' base g h kb A A' n c c' l p' b' q f lv sz ks := by
  have hF : Fr w w' (fun k => k = g) := Fr.of_grown hg (fun k e => by injection e with e; exact e.symm)
  have hgl := s.gl
  refine ⟨hr, ⟨far_row hg s.qs.rd s.ne.symm, s.qs.rb.grown s.rs.rd (fun x => by simp) hg, s.qs.hc, s.qs.hp⟩, s.kb_.fr hF (fun e => by have := s.kb_.hb; omega) (fun k hk e => by have := (s.kb_.lvlt hk).1; omega) (fun i hi e => by have := (s.kb_.glt i hi).1; omega),
    s.gl, s.hl, s.ne, s.al, s.al', s.low, s.h0, Nat.le_trans s.hi hg.size, s.bel.trans hF (fun _ _ e => e)⟩
/-- behind a call on the document's reader -/
theorem ST.qstep (s : ST w0 w base g h kb A A' n c c' l p b q f lv sz ks) (hr : QS w' h A' n c' l q' f') (hg : w.grownBy w' (some h)) : ST w0 w' base g h kb A A' n c c' l p b q' f' lv sz ks := by
  have hF : Fr w w' (fun k => k = h) := Fr.of_grown hg (fun k e => by injection e with e; exact e.symm)
  have hhl := s.hl
  refine ⟨⟨far_row hg s.rs.rd s.ne, s.rs.rb.keepRow s.qs.rd three_no hg, s.rs.hc, s.rs.hp⟩, hr, s.kb_.fr hF (fun e => by have := s.kb_.hb; omega) (fun k hk e => by have := (s.kb_.lvlt hk).1; omega) (fun i hi e => by have := (s.kb_.glt i hi).1; omega),
    s.gl, s.hl, s.ne, s.al, s.al', s.low, s.h0, Nat.le_trans s.hi hg.size, s.bel.trans hF (fun i hi e => by have := s.h0; omega)⟩
/-- behind a call of Keep -/
theorem ST.kept {lv' : Value} {sz' : Int} {ks' : List KL} (s : ST w0 w base g h kb A A' n c c' l p b q f lv sz ks) (hK : KB w' base kb lv' sz' 4194304 ks') (hF : Fr w w' (KP kb lv)) : ST w0 w' base g h kb A A' n c c' l p b q f lv' sz' ks' := by
  have hp : ∀ k, KP kb lv k → base ≤ k := fun k hk => by
    rcases hk with rfl | hk
    · exact s.kb_.hb
    · exact (s.kb_.lvlt hk).1
  have hB : Below base w w' := ⟨hF.os, hF.tape, hF.output, hF.size, fun k hk => hF.block k (Nat.lt_of_lt_of_le hk s.hi) (fun e => by have := hp k e; omega)⟩
  have hlow := s.low
  have hB0 : Fr w0 w' (fun k => k = g) := s.bel.trans hF (fun i hi e => by have := hp i e; omega)
  exact ⟨⟨(hB.block g s.gl).trans s.rs.rd, s.rs.rb.lowB s.al hB, s.rs.hc, s.rs.hp⟩, ⟨(hB.block h s.hl).trans s.qs.rd, s.qs.rb.lowB s.al' hB, s.qs.hc, s.qs.hp⟩, hK, s.gl, s.hl, s.ne, s.al, s.al', s.low, s.h0, Nat.le_trans s.hi hF.size, hB0⟩
/-- the second half of one's post -/
def OneP (w0 : World) (base g h kb : Nat) (A A' : Option Addr) (n c c' : Nat) (l : List Int) (e : Ending) (w' : World) : Prop := e = .returned (.bool true) ∧ ∃ p b lv sz ks, ST w0 w' base g h kb A A' n c c' l p b p b lv sz ks
theorem OneP.mk' {e : Ending} (s : ST w0 w' base g h kb A A' n c c' l p b p b lv sz ks) (he : e = .returned (.bool true)) : OneP w0 base g h kb A A' n c c' l e w' := ⟨he, _, _, _, _, _, s⟩
set_option maxHeartbeats 2000000 in
theorem one_varint (most size : Int) (s : ST w0 w base g h kb A A' n c c' l p b p b lv sz ks) :
    Calls Try.prog 43 #[.pointer (some ⟨g, 0, none⟩), .pointer (some ⟨h, 0, none⟩), .agg #[.int .i64 1, .int .u64 most, .int .i64 size], .pointer (some ⟨kb, 0, none⟩)] w fun e w' => OneP w0 base g h kb A A' n c c' l e w' := by
  have s1 := (s.below (below_alloc1 w (.cells #[.int .i64 1, .int .u64 most, .int .i64 size] 59)))
  have hn := heap_alloc_new w (.cells #[.int .i64 1, .int .u64 most, .int .i64 size] 59)
  have HN := Lib.hid hn
  have hgl : g ≠ w.heap.size := by have := s.gl; have := s.hi; omega
  have hhl : h ≠ w.heap.size := by have := s.hl; have := s.hi; omega
  have HGL := Lib.hid (And.intro hgl hhl)
  clear hn hgl hhl
  go_enter Try.func43, Try.ntmps43
  go_wp2_with fail
  have s2 := s1.drew
  have hb0 := blk_cell HN.out 1 (v := some (.int .u64 most)) rfl
  go_region_held3 (fun w' => w'.cell? ⟨w.heap.size, 1, none⟩ = some (.int .u64 most)) (first | exact ob4 | exact ob3 | exact hb0)
    (first
      | (go_at_call 48; refine (varintR_any g A n c l p b most _ s2.rs).mono ?_; rintro e w3 ⟨rfl, hr3, hg3⟩; have s3 := s2.rstep hr3 hg3; have hq3 := far_row hg3 HN.out HGL.out.1.symm; have HQ3 := Lib.hid hq3; have ob3 := blk_cell hq3 1 (v := some (.int .u64 most)) rfl; clear hq3)
      | (go_at_call 88; refine (qvarint_any h A' n c' l p b most _ s3.qs).mono ?_; rintro e w4 ⟨rfl, hr4, hg4⟩; have s4 := s3.qstep hr4 hg4; have hq4 := far_row hg4 HQ3.out HGL.out.2.symm; have ob4 := blk_cell hq4 1 (v := some (.int .u64 most)) rfl; clear hq4))
  all_goals go_wp2_with fail
  go_ret
  exact OneP.mk' s4 (by simp)
theorem rdL_rng (l : List Int) (hb : BY l) (p : Nat) (b : Int) (sz : Nat) : 0 ≤ (rdL l p b sz).1 ∧ (rdL l p b sz).1 < 2 ^ (8 * sz) := by
  have hp : (0 : Int) < 2 ^ (8 * sz) := Int.pow_pos (by omega)
  rcases rdL_cases l p b sz with ⟨_, _, h1⟩ | ⟨e, _, h1, _⟩
  · rw [h1]; exact low_small (by_drop hb p) sz
  · rw [h1]; exact ⟨Int.le_refl _, hp⟩
theorem wrap_u64' (x : Int) (h0 : 0 ≤ x) (k : Nat) (hk : k ≤ 8) (h1 : x < 2 ^ (8 * k)) : IntKind.u64.wrap x = x := by
  have hle : (2 : Nat) ^ (8 * k) ≤ 2 ^ 64 := Nat.pow_le_pow_right (by omega) (by omega)
  have c1 : ((2 : Int) ^ (8 * k)) = ((2 ^ (8 * k) : Nat) : Int) := by simp
  rw [c1] at h1
  exact wrap_u64 x h0 (by omega)
set_option maxHeartbeats 2000000 in
theorem one_signed (most size : Int) (s : ST w0 w base g h kb A A' n c c' l p b p b lv sz ks) :
    Calls Try.prog 43 #[.pointer (some ⟨g, 0, none⟩), .pointer (some ⟨h, 0, none⟩), .agg #[.int .i64 2, .int .u64 most, .int .i64 size], .pointer (some ⟨kb, 0, none⟩)] w fun e w' => OneP w0 base g h kb A A' n c c' l e w' := by
  have s1 := (s.below (below_alloc1 w (.cells #[.int .i64 2, .int .u64 most, .int .i64 size] 59)))
  go_enter Try.func43, Try.ntmps43
  go_wp2_with (first
    | (go_at_call 49; refine (signedR_any g A n c l p b _ s1.rs).mono ?_; rintro e w3 ⟨rfl, hr3, hg3⟩; have s3 := s1.rstep hr3 hg3)
    | (go_at_call 89; refine (qsigned_any h A' n c' l p b _ s3.qs).mono ?_; rintro e w4 ⟨rfl, hr4, hg4⟩; have s4 := s3.qstep hr4 hg4))
  go_ret
  exact OneP.mk' s4 (by simp)
set_option maxHeartbeats 2000000 in
theorem one_fixed32 (most size : Int) (s : ST w0 w base g h kb A A' n c c' l p b p b lv sz ks) :
    Calls Try.prog 43 #[.pointer (some ⟨g, 0, none⟩), .pointer (some ⟨h, 0, none⟩), .agg #[.int .i64 3, .int .u64 most, .int .i64 size], .pointer (some ⟨kb, 0, none⟩)] w fun e w' => OneP w0 base g h kb A A' n c c' l e w' := by
  have s1 := (s.below (below_alloc1 w (.cells #[.int .i64 3, .int .u64 most, .int .i64 size] 59)))
  obtain ⟨y0, y1⟩ := rdL_rng l s.rs.rb.by_ p b 4
  have ew := wrap_u64' _ y0 4 (by omega) y1
  have HEW := Lib.hid ew
  clear y0 y1
  go_enter Try.func43, Try.ntmps43
  go_wp2_with (first
    | (go_at_call 50; refine (fixed32R_any g A n c l p b _ s1.rs).mono ?_; rintro e w3 ⟨rfl, hr3, hg3⟩; have s3 := s1.rstep hr3 hg3)
    | (go_at_call 90; refine (qfixed_any h A' n c' l p b 4 _ s3.qs (by omega) (by omega)).mono ?_; rintro e w4 ⟨rfl, hr4, hg4⟩; have s4 := s3.qstep hr4 hg4))
  go_ret
  exact OneP.mk' s4 (by simp)
set_option maxHeartbeats 2000000 in
theorem one_fixed64 (most size : Int) (s : ST w0 w base g h kb A A' n c c' l p b p b lv sz ks) :
    Calls Try.prog 43 #[.pointer (some ⟨g, 0, none⟩), .pointer (some ⟨h, 0, none⟩), .agg #[.int .i64 4, .int .u64 most, .int .i64 size], .pointer (some ⟨kb, 0, none⟩)] w fun e w' => OneP w0 base g h kb A A' n c c' l e w' := by
  have s1 := (s.below (below_alloc1 w (.cells #[.int .i64 4, .int .u64 most, .int .i64 size] 59)))
  go_enter Try.func43, Try.ntmps43
  go_wp2_with (first
    | (go_at_call 51; refine (fixed64R_any g A n c l p b _ s1.rs).mono ?_; rintro e w3 ⟨rfl, hr3, hg3⟩; have s3 := s1.rstep hr3 hg3)
    | (go_at_call 90; refine (qfixed_any h A' n c' l p b 8 _ s3.qs (by omega) (by omega)).mono ?_; rintro e w4 ⟨rfl, hr4, hg4⟩; have s4 := s3.qstep hr4 hg4))
  go_ret
  exact OneP.mk' s4 (by simp)
set_option maxHeartbeats 2000000 in
theorem one_byte (most size : Int) (s : ST w0 w base g h kb A A' n c c' l p b p b lv sz ks) :
    Calls Try.prog 43 #[.pointer (some ⟨g, 0, none⟩), .pointer (some ⟨h, 0, none⟩), .agg #[.int .i64 6, .int .u64 most, .int .i64 size], .pointer (some ⟨kb, 0, none⟩)] w fun e w' => OneP w0 base g h kb A A' n c c' l e w' := by
  have s1 := (s.below (below_alloc1 w (.cells #[.int .i64 6, .int .u64 most, .int .i64 size] 59)))
  obtain ⟨y0, y1⟩ := rdL_rng l s.rs.rb.by_ p b 1
  have ew := wrap_u64' _ y0 1 (by omega) y1
  have HEW := Lib.hid ew
  clear y0 y1
  go_enter Try.func43, Try.ntmps43
  go_wp2_with (first
    | (go_at_call 92; refine (byteR_any g A n c l p b _ s1.rs).mono ?_; rintro e w3 ⟨rfl, hr3, hg3⟩; have s3 := s1.rstep hr3 hg3)
    | (go_at_call 90; refine (qfixed_any h A' n c' l p b 1 _ s3.qs (by omega) (by omega)).mono ?_; rintro e w4 ⟨rfl, hr4, hg4⟩; have s4 := s3.qstep hr4 hg4))
  go_ret
  exact OneP.mk' s4 (by simp)
/-- a call of Keep over an array just made, the base anywhere below -/
theorem keep_call2 (base kb m low : Nat) (lv : Value) (sz : Int) (ks : List KL) (us : List UL) (cs : Array Value) (w : World) (hbw : base ≤ w.heap.size) (hK : KB w base kb lv sz 4194304 ks) (hM : MD w base us low) (hks : ∀ i, i < ks.length → (ks.getD i kd).g < low) (hm : us.length = m) (hm8 : m ≤ 1000) (hcs : cs = (us.map UL.v).toArray) :
    Calls Try.prog 33 #[.pointer (some ⟨kb, 0, none⟩), .slice (some ⟨w.heap.size, 0, none⟩) m m] (w.alloc (.cells cs 25)) fun e w' => e = .returned (.tuple #[]) ∧ ∃ lv' sz' new, KB w' base kb lv' sz' 4194304 (ks ++ new) ∧ Fr (w.alloc (.cells cs 25)) w' (KP kb lv) := by
  refine (keep_any base kb w.heap.size m lv sz ks us (w.alloc (.cells cs 25)) (hK.below (below_alloc1 w _)) (hM.us hks hcs) hm hm8 (fun e => by have := (hK.lvlt e).2; omega) (by simp; omega)).mono ?_
  rintro e w' ⟨rfl, lv', sz', new, h1, h2, _⟩
  exact ⟨rfl, lv', sz', new, h1, h2⟩
theorem MD.one {w : World} {base low at_ : Nat} {v : Value} {l : List Int} (h : OB 5 w at_ v l) (ht : l.length ≤ 140737488355328) (hb : base ≤ at_) (hl : low ≤ at_) : MD w base [⟨v, l⟩] low := by
  have e : ∀ j, j < ([(⟨v, l⟩ : UL)]).length → j = 0 := fun j hj => by simp at hj; exact hj
  refine ⟨fun j hj => ?_, fun j hj => ?_, fun i j hi hj hij => ?_, fun j hj k hk => ?_⟩
  · obtain rfl := e j hj; exact h.lower hb
  · obtain rfl := e j hj; exact ht
  · exact absurd ((e i hi).trans (e j hj).symm) hij
  · obtain rfl := e j hj
    have := (own_blk_lt h k hk).1
    omega
theorem KB.not59 {w : World} {base kb k : Nat} {lv : Value} {sz : Int} {T : Nat} {ks : List KL} {cs : Array Value} (h : KB w base kb lv sz T ks) (hk : w.heap[k]? = some (.cells cs 59 (0, 0))) : ¬ KP kb lv k := by
  rintro (e | e)
  · rw [e] at hk; exact absurd (blk_type hk h.blk) (by decide)
  · obtain ⟨c5, h5⟩ := own_type h.row e
    exact absurd (blk_type hk h5) (by decide)
theorem rdS_top (l : List Int) (hb : BY l) (p : Nat) (hp : p ≤ l.length) (b most : Int) : BY (rdS l p b most).1 ∧ (rdS l p b most).1.length ≤ l.length := by
  rcases rdS_cases l hb p hp b most with ⟨s, k, _, _, _, h1, h2, h3⟩ | ⟨e, _, h1, _⟩
  · rw [h3]; exact ⟨h1, h2⟩
  · rw [h1]; exact ⟨fun x hx => by simp at hx, by simp⟩
set_option maxHeartbeats 4000000 in
theorem one_string (most size : Int) (z0 : -9223372036854775808 ≤ size) (z1 : size ≤ 9223372036854775807) (s : ST w0 w base g h kb A A' n c c' l p b p b lv sz ks) :
    Calls Try.prog 43 #[.pointer (some ⟨g, 0, none⟩), .pointer (some ⟨h, 0, none⟩), .agg #[.int .i64 5, .int .u64 most, .int .i64 size], .pointer (some ⟨kb, 0, none⟩)] w fun e w' => OneP w0 base g h kb A A' n c c' l e w' := by
  have s1 := (s.below (below_alloc1 w (.cells #[.int .i64 5, .int .u64 most, .int .i64 size] 59)))
  have hn := heap_alloc_new w (.cells #[.int .i64 5, .int .u64 most, .int .i64 size] 59)
  have HN := Lib.hid hn
  have hgl : g ≠ w.heap.size := by have := s.gl; have := s.hi; omega
  have hhl : h ≠ w.heap.size := by have := s.hl; have := s.hi; omega
  have HGL := Lib.hid (And.intro hgl hhl)
  have hob := blk_cell hn 2 (v := some (.int .i64 size)) rfl
  obtain ⟨t0, t1⟩ := rdS_top l s.rs.rb.by_ p (by rw [s.rs.rb.len]; exact s.rs.hp) b size
  obtain ⟨R, hR⟩ : ∃ R, R = rdS l p b size := ⟨_, rfl⟩
  rw [← hR] at t0 t1
  have HT := Lib.hid (And.intro t0 (show R.1.length ≤ 140737488355328 by have := s.rs.rb.len; have := s.rs.rb.top; omega))
  have HR := Lib.hid hR
  have heq := eqI_self R.1
  have HWS := Lib.hid (show (w.alloc (.cells #[.int .i64 5, .int .u64 most, .int .i64 size] 59)).heap.size = w.heap.size + 1 by simp)
  clear hn hgl hhl t0 t1 hR
  go_enter Try.func43, Try.ntmps43
  go_wp2_with (first
    | (go_at_call 52; refine (stringR_any g A n c l p b size _ s1.rs z0 z1).mono ?_; rw [← HR.out]; rintro e w3 ⟨v3, rfl, hO3, hr3, hg3⟩; have s3 := s1.rstep hr3 hg3; have hq3 := far_row hg3 HN.out HGL.out.1.symm; have HQ3 := Lib.hid hq3; have hM3 := Lib.hid ((MD.nil w3 base w.heap.size)); have HO3 := Lib.hid hO3; obtain ⟨A3, c3, rfl, -⟩ := own_cap hO3; clear hq3 hO3)
    | (go_at_call 33; refine (keep_call2 base kb 1 w.heap.size lv sz ks [⟨.slice A3 R.1.length c3, R.1⟩] _ w3 s3.hi s3.kb_ ?_ s.kb_.hks rfl (by omega) rfl).mono ?_; (exact MD.one HO3.out HT.out.2 s1.hi (by rw [HWS.out]; omega)); rintro e w4 ⟨rfl, lv4, sz4, new4, hK4, hF4⟩; have s4 := (s3.below (below_alloc1 w3 (.cells #[.slice A3 R.1.length c3] 25))).kept hK4 hF4; have hq4 : w4.heap[w.heap.size]? = some (.cells #[.int .i64 5, .int .u64 most, .int .i64 size] 59 (0, 0)) := (hF4.block _ (lt_of_block (blk_old HQ3.out _)) (s3.kb_.not59 HQ3.out)).trans (blk_old HQ3.out _); have hob4 := blk_cell hq4 2 (v := some (.int .i64 size)) rfl; have HO4 := Lib.hid ((HO3.out.below (below_alloc1 w3 (.cells #[.slice A3 R.1.length c3] 25))).fr hF4 (fun k hk => s3.kb_.ne5 HO3.out hk)); clear hq4)
    | (go_at_call 91; refine (qstring_any h A' n c' l p b size _ s4.qs z0 z1).mono ?_; rw [← HR.out]; rintro e w5 ⟨v5, rfl, hO5, hr5, hg5⟩; have s5 := s4.qstep hr5 hg5; have HO6 := HO4.out.far hg5 (by have := s.hl; have := s1.hi; omega); obtain ⟨A5, n5, c5, rfl, hc5, hb5⟩ := hO5.readN HT.out.1 HT.out.2; obtain ⟨A6, n6, c6, hv6, hc6, hb6⟩ := HO6.readN HT.out.1 HT.out.2; obtain ⟨rfl, rfl, rfl⟩ : A3 = A6 ∧ R.1.length = n6 ∧ c3 = c6 := (by injection hv6 with q1 q2 q3; exact ⟨q1, q2, q3⟩))
    | (go_at_call 26; refine (eq_any A3 A5 R.1.length n5 c3 c5 R.1 R.1 _ hb6 hb5).mono ?_; rw [heq]; rintro e w7 ⟨rfl, hb7⟩; have s7 := s5.below hb7))
  go_ret
  exact OneP.mk' s7 rfl
set_option maxHeartbeats 2000000 in
theorem one_other (kind most size : Int) (hk : kind < 1 ∨ 6 < kind) (s : ST w0 w base g h kb A A' n c c' l p b p b lv sz ks) :
    Calls Try.prog 43 #[.pointer (some ⟨g, 0, none⟩), .pointer (some ⟨h, 0, none⟩), .agg #[.int .i64 kind, .int .u64 most, .int .i64 size], .pointer (some ⟨kb, 0, none⟩)] w fun e w' => OneP w0 base g h kb A A' n c c' l e w' := by
  have s1 := (s.below (below_alloc1 w (.cells #[.int .i64 kind, .int .u64 most, .int .i64 size] 59)))
  have d1 : (kind == 1) = false := by simp; omega
  have d2 : (kind == 2) = false := by simp; omega
  have d3 : (kind == 3) = false := by simp; omega
  have d4 : (kind == 4) = false := by simp; omega
  have d5 : (kind == 5) = false := by simp; omega
  have d6 : (kind == 6) = false := by simp; omega
  clear hk
  go_enter Try.func43, Try.ntmps43
  go_wp2_with fail
  go_ret
  exact OneP.mk' s1 rfl
theorem one_any (kind most size : Int) (z0 : -9223372036854775808 ≤ size) (z1 : size ≤ 9223372036854775807) (s : ST w0 w base g h kb A A' n c c' l p b p b lv sz ks) :
    Calls Try.prog 43 #[.pointer (some ⟨g, 0, none⟩), .pointer (some ⟨h, 0, none⟩), .agg #[.int .i64 kind, .int .u64 most, .int .i64 size], .pointer (some ⟨kb, 0, none⟩)] w fun e w' => OneP w0 base g h kb A A' n c c' l e w' := by
  have hk : kind = 1 ∨ kind = 2 ∨ kind = 3 ∨ kind = 4 ∨ kind = 5 ∨ kind = 6 ∨ (kind < 1 ∨ 6 < kind) := by omega
  rcases hk with rfl | rfl | rfl | rfl | rfl | rfl | hk
  · exact one_varint most size s
  · exact one_signed most size s
  · exact one_fixed32 most size s
  · exact one_fixed64 most size s
  · exact one_string most size z0 z1 s
  · exact one_byte most size s
  · exact one_other kind most size hk s
end Go.Proofs.Ythggicgbcgeggaa
