/- Plain functions and walks: what each of the reader's calls does, wherever the reader stands. -/
import Derived.Test.YthggicgbcgeggaaV10
import Derived.Test.YthggicgbcgeggaaVM
set_option linter.unusedVariables false
set_option linter.unusedSimpArgs false
namespace Go.Proofs.Ythggicgbcgeggaa
open Go.RowKit
/-- a varint of at most so much: the number, the place and the error behind it -/
def rdN (l : List Int) (p : Nat) (b most : Int) : Int × Nat × Int :=
  if b ≠ 0 then (0, p, b) else if (rvI (l.drop p)).2.2 ≠ 0 then (0, p, (rvI (l.drop p)).2.2) else if most < (rvI (l.drop p)).1 then (0, p, 3) else ((rvI (l.drop p)).1, p + (rvI (l.drop p)).2.1.toNat, 0)
/-- so many bytes, the lowest first -/
def rdL (l : List Int) (p : Nat) (b : Int) (sz : Nat) : Int × Nat × Int :=
  if b ≠ 0 then (0, p, b) else if l.length - p < sz then (0, p, 2) else (lo (l.drop p) sz, p + sz, 0)
/-- a string of at most so much -/
def rdS (l : List Int) (p : Nat) (b most : Int) : List Int × Nat × Int :=
  if b ≠ 0 then ([], p, b) else if (rsI (l.drop p) most).2.2 ≠ 0 then ([], p, (rsI (l.drop p) most).2.2) else ((rsI (l.drop p) most).1, p + (rsI (l.drop p) most).2.1.toNat, 0)
theorem by_drop {l : List Int} (h : BY l) (p : Nat) : BY (l.drop p) := fun x hx => h x (List.mem_of_mem_drop hx)
theorem rdN_cases (l : List Int) (hb : BY l) (p : Nat) (hp : p ≤ l.length) (b most : Int) :
    (∃ (x : Int) (j : Nat), b = 0 ∧ rvI (l.drop p) = (x, (j : Int), 0) ∧ x ≤ most ∧ p + j ≤ l.length ∧ 0 ≤ x ∧ x < 18446744073709551616 ∧ rdN l p b most = (x, p + j, 0)) ∨
    (∃ e : Int, e ≠ 0 ∧ rdN l p b most = (0, p, e) ∧ (b = e ∨ (b = 0 ∧ rvI (l.drop p) = (0, 0, e)) ∨ (b = 0 ∧ e = 3 ∧ ∃ (x : Int) (j : Nat), rvI (l.drop p) = (x, (j : Int), 0) ∧ most < x))) := by
  by_cases h0 : b = 0
  · rcases rvI_cases (l.drop p) (by_drop hb p) with (h | h) | ⟨x, j, h, x0, x1, j0, j1, j2⟩
    · exact .inr ⟨2, by omega, by simp [rdN, h0, h], .inr (.inl ⟨h0, h⟩)⟩
    · exact .inr ⟨4, by omega, by simp [rdN, h0, h], .inr (.inl ⟨h0, h⟩)⟩
    · rw [List.length_drop] at j2
      by_cases hm : most < x
      · exact .inr ⟨3, by omega, by simp [rdN, h0, h, hm], .inr (.inr ⟨h0, rfl, x, j, h, hm⟩)⟩
      · exact .inl ⟨x, j, h0, h, by omega, by omega, x0, x1, by simp [rdN, h0, h, hm]⟩
  · exact .inr ⟨b, h0, by simp [rdN, h0], .inl rfl⟩
theorem rdL_cases (l : List Int) (p : Nat) (b : Int) (sz : Nat) :
    (b = 0 ∧ sz ≤ l.length - p ∧ rdL l p b sz = (lo (l.drop p) sz, p + sz, 0)) ∨ (∃ e : Int, e ≠ 0 ∧ rdL l p b sz = (0, p, e) ∧ (b = e ∨ (b = 0 ∧ e = 2 ∧ l.length - p < sz))) := by
  by_cases h0 : b = 0
  · by_cases h : l.length - p < sz
    · exact .inr ⟨2, by omega, by simp [rdL, h0, h], .inr ⟨h0, rfl, h⟩⟩
    · exact .inl ⟨h0, by omega, by simp [rdL, h0, h]⟩
  · exact .inr ⟨b, h0, by simp [rdL, h0], .inl rfl⟩
theorem rsI_cases (l : List Int) (hb : BY l) (most : Int) :
    (∃ e : Int, e ≠ 0 ∧ rsI l most = ([], 0, e)) ∨ ∃ (s : List Int) (k : Nat), rsI l most = (s, (k : Int), 0) ∧ k ≤ l.length ∧ BY s ∧ s.length ≤ l.length := by
  unfold rsI
  by_cases hm : most < 0
  · exact .inl ⟨1, by omega, by rw [if_pos hm]⟩
  · rw [if_neg hm]
    rcases rvI_cases l hb with (h | h) | ⟨x, j, h, x0, x1, j0, j1, j2⟩
    · exact .inl ⟨2, by omega, by simp [h]⟩
    · exact .inl ⟨4, by omega, by simp [h]⟩
    · rw [h]
      simp only [ne_eq, not_true_eq_false, if_false]
      by_cases h3 : most < x
      · exact .inl ⟨3, by omega, by rw [if_pos h3]⟩
      · rw [if_neg h3]
        by_cases h4 : (l.length : Int) - j < x
        · exact .inl ⟨2, by omega, by rw [if_pos h4]⟩
        · rw [if_neg h4]
          refine .inr ⟨(l.drop j).take x.toNat, j + x.toNat, ?_, by omega, fun y hy => hb y (List.mem_of_mem_drop (List.mem_of_mem_take hy)), ?_⟩
          · simp; omega
          · rw [List.length_take, List.length_drop]; omega
theorem rdS_cases (l : List Int) (hb : BY l) (p : Nat) (hp : p ≤ l.length) (b most : Int) :
    (∃ (s : List Int) (k : Nat), b = 0 ∧ rsI (l.drop p) most = (s, (k : Int), 0) ∧ p + k ≤ l.length ∧ BY s ∧ s.length ≤ l.length ∧ rdS l p b most = (s, p + k, 0)) ∨
    (∃ e : Int, e ≠ 0 ∧ rdS l p b most = ([], p, e) ∧ (b = e ∨ (b = 0 ∧ rsI (l.drop p) most = ([], 0, e)))) := by
  by_cases h0 : b = 0
  · rcases rsI_cases (l.drop p) (by_drop hb p) most with ⟨e, he, h⟩ | ⟨s, k, h, hk, hs, hsl⟩
    · exact .inr ⟨e, he, by simp [rdS, h0, h, he], .inr ⟨h0, h⟩⟩
    · rw [List.length_drop] at hk hsl
      exact .inl ⟨s, k, h0, h, by omega, hs, by omega, by simp [rdS, h0, h]⟩
  · exact .inr ⟨b, h0, by simp [rdS, h0], .inl rfl⟩
/-- where a reader stands: its bytes, its place, its error -/
structure RS (w : World) (g : Nat) (A : Option Addr) (n c : Nat) (l : List Int) (p : Nat) (b : Int) : Prop where
  rd : RD w g (.slice A n c) p b
  rb : RB w A n l
  hc : n ≤ c
  hp : p ≤ n
set_option maxHeartbeats 400000 in
theorem number_stop (g : Nat) (A : Option Addr) (n c : Nat) (l : List Int) (p : Nat) (b most x : Int) (w : World) (h : RS w g A n c l p b) (hx : x ≠ 0) (hd : rdN l p b most = (0, p, x)) :
    Calls Try.prog 95 #[.pointer (some ⟨g, 0, none⟩), .int .u64 most] w fun e w' => e = .panicked [{ v := .iface 151 (.agg #[.int .i64 x]), recovered := false }] ∧ ∃ k, w' = w.drewN k := by
  rcases rdN_cases l h.rb.by_ p (by rw [h.rb.len]; exact h.hp) b most with ⟨y, j, _, _, _, _, _, _, h1⟩ | ⟨e, he, h1, h2⟩
  · rw [hd] at h1
    injection h1 with _ h1
    injection h1 with _ h1
    exact absurd h1 hx
  · rw [hd] at h1
    injection h1 with _ h1
    injection h1 with _ h1
    subst h1
    rcases h2 with rfl | ⟨rfl, h2⟩ | ⟨rfl, rfl, y, j, h2, h3⟩
    · have hr := h.rd
      go_enter Try.func95, Try.ntmps95
      go_wp2_with (go_at_call 101; refine (rest_bad g _ p b _ hr hx).mono ?_; rintro e w1 ⟨rfl, rfl⟩)
      exact ⟨rfl, rfl, 0, rfl⟩
    · exact number_bad g A n c l p most x w h.rd h.rb h.hc h.hp h2 hx
    · exact number_long g A n c l p most y j w h.rd h.rb h.hc h.hp h2 h3
set_option maxHeartbeats 400000 in
theorem low_stop (g : Nat) (A : Option Addr) (n c : Nat) (l : List Int) (p : Nat) (b x : Int) (sz : Nat) (w : World) (h : RS w g A n c l p b) (hx : x ≠ 0) (hd : rdL l p b sz = (0, p, x)) :
    Calls Try.prog 98 #[.pointer (some ⟨g, 0, none⟩), .int .i64 sz] w fun e w' => e = .panicked [{ v := .iface 151 (.agg #[.int .i64 x]), recovered := false }] ∧ ∃ k, w' = w.drewN k := by
  rcases rdL_cases l p b sz with ⟨_, _, h1⟩ | ⟨e, he, h1, h2⟩
  · rw [hd] at h1
    injection h1 with _ h1
    injection h1 with _ h1
    exact absurd h1 hx
  · rw [hd] at h1
    injection h1 with _ h1
    injection h1 with _ h1
    subst h1
    rcases h2 with rfl | ⟨rfl, rfl, h2⟩
    · have hr := h.rd
      go_enter Try.func98, Try.ntmps98
      go_wp2_with (go_at_call 101; refine (rest_bad g _ p b _ hr hx).mono ?_; rintro e w1 ⟨rfl, rfl⟩)
      exact ⟨rfl, rfl, 0, rfl⟩
    · exact low_short g A n c l p sz w h.rd h.rb h.hc h.hp (by rw [h.rb.len] at h2; omega)
set_option maxHeartbeats 1000000 in
theorem varintR_stop (g : Nat) (A : Option Addr) (n c : Nat) (l : List Int) (p : Nat) (b : Int) (most : Int) (x : Int) (w : World) (h : RS w g A n c l p b) (hx : x ≠ 0) (hd : rdN l p b most = (0, p, x)) :
    Calls Try.prog 48 #[.pointer (some ⟨g, 0, none⟩), .int .u64 most] w fun e w' => e = .returned (.int .u64 0) ∧ RD w' g (.slice A n c) p x ∧ w.grownBy w' (some g) := by
  have hmf : ∀ (fn : Fn) (first cap : Array Value) (w : World), (Instr.makeFunc fn first cap).run Try.prog w = .ok (.func fn first cap) w := fun _ _ _ _ => rfl
  have hgl : g < w.heap.size := (Array.getElem?_eq_some_iff.1 h.rd).1
  have h2 : RS ((w.alloc (.cells #[.pointer (some ⟨g, 0, none⟩)] 52)).alloc (.cells #[.int .u64 0] 27)) g A n c l p b := ⟨blk_old (blk_old h.rd _) _, h.rb.below ((below_alloc1 w _).alloc (by simp) _), h.hc, h.hp⟩
  have HD := Lib.hid hd
  have HX := Lib.hid hx
  clear hd hx
  go_enter_defers Try.func48, Try.ntmps48
  obtain ⟨hn1, hn2⟩ := two_new w (.cells #[.pointer (some ⟨g, 0, none⟩)] 52) (.cells #[.int .u64 0] 27)
  have HN := Lib.hid (And.intro hn1 hn2)
  clear hn1 hn2
  go_wp2_with (go_at_call 95; refine (number_stop g A n c l p b most x _ h2 HX.out HD.out).mono ?_; rintro e w1 ⟨rfl, k, rfl⟩)
  refine leaves_cons (f := 93) (args := #[.pointer (some ⟨w.heap.size, 0, none⟩), .pointer (some ⟨w.heap.size + 1, 0, none⟩)]) (by simp) (by simp [go_sem]) ?_
  refine (catch93 ⟨w.heap.size, 0, none⟩ ⟨w.heap.size + 1, 0, none⟩ g (.slice A n c) p b x (.int .u64 0) [] _ ?_ ?_ ?_ ?_ ?_).mono ?_
  · exact blk_cell HN.out.1 0 rfl
  · exact h2.rd
  · exact blk_cell HN.out.2 0 rfl
  · exact blk_free HN.out.2 0
  · simp; omega
  rintro e u' w'' ⟨rfl, rfl, w1, hg1, hr1, rfl⟩
  have hg0 : ((w.alloc (.cells #[.pointer (some ⟨g, 0, none⟩)] 52)).alloc (.cells #[.int .u64 0] 27)).grownBy w1 (some g) := ⟨hg1.os, hg1.tape, hg1.output, hg1.size, hg1.block⟩
  have hb4 := blk_grown hg0 (by omega) HN.out.2
  have hc4 : (w1.setCell ⟨w.heap.size + 1, 0, none⟩ (.int .u64 0)).cell? ⟨w.heap.size + 1, 0, none⟩ = some (.int .u64 0) := blk_cell (blk_set hb4 0 _) 0 rfl
  simp [Leaves, settle, results, Try.results48, go_sem, hc4]
  exact ⟨blk_set_ne hr1 0 _ (by omega), grown_new (grown_two _ _ hg0) (show w.heap.size ≤ w.heap.size + 1 by omega) 0 (.int .u64 0)⟩
set_option maxHeartbeats 1000000 in
theorem signedR_stop (g : Nat) (A : Option Addr) (n c : Nat) (l : List Int) (p : Nat) (b : Int) (x : Int) (w : World) (h : RS w g A n c l p b) (hx : x ≠ 0) (hd : rdN l p b 18446744073709551615 = (0, p, x)) :
    Calls Try.prog 49 #[.pointer (some ⟨g, 0, none⟩)] w fun e w' => e = .returned (.int .i64 0) ∧ RD w' g (.slice A n c) p x ∧ w.grownBy w' (some g) := by
  have hmf : ∀ (fn : Fn) (first cap : Array Value) (w : World), (Instr.makeFunc fn first cap).run Try.prog w = .ok (.func fn first cap) w := fun _ _ _ _ => rfl
  have hgl : g < w.heap.size := (Array.getElem?_eq_some_iff.1 h.rd).1
  have h2 : RS ((w.alloc (.cells #[.pointer (some ⟨g, 0, none⟩)] 52)).alloc (.cells #[.int .i64 0] 2)) g A n c l p b := ⟨blk_old (blk_old h.rd _) _, h.rb.below ((below_alloc1 w _).alloc (by simp) _), h.hc, h.hp⟩
  have HD := Lib.hid hd
  have HX := Lib.hid hx
  clear hd hx
  go_enter_defers Try.func49, Try.ntmps49
  obtain ⟨hn1, hn2⟩ := two_new w (.cells #[.pointer (some ⟨g, 0, none⟩)] 52) (.cells #[.int .i64 0] 2)
  have HN := Lib.hid (And.intro hn1 hn2)
  clear hn1 hn2
  go_wp2_with (go_at_call 95; refine (number_stop g A n c l p b 18446744073709551615 x _ h2 HX.out HD.out).mono ?_; rintro e w1 ⟨rfl, k, rfl⟩)
  refine leaves_cons (f := 96) (args := #[.pointer (some ⟨w.heap.size, 0, none⟩), .pointer (some ⟨w.heap.size + 1, 0, none⟩)]) (by simp) (by simp [go_sem]) ?_
  refine (catch96 ⟨w.heap.size, 0, none⟩ ⟨w.heap.size + 1, 0, none⟩ g (.slice A n c) p b x (.int .i64 0) [] _ ?_ ?_ ?_ ?_ ?_).mono ?_
  · exact blk_cell HN.out.1 0 rfl
  · exact h2.rd
  · exact blk_cell HN.out.2 0 rfl
  · exact blk_free HN.out.2 0
  · simp; omega
  rintro e u' w'' ⟨rfl, rfl, w1, hg1, hr1, rfl⟩
  have hg0 : ((w.alloc (.cells #[.pointer (some ⟨g, 0, none⟩)] 52)).alloc (.cells #[.int .i64 0] 2)).grownBy w1 (some g) := ⟨hg1.os, hg1.tape, hg1.output, hg1.size, hg1.block⟩
  have hb4 := blk_grown hg0 (by omega) HN.out.2
  have hc4 : (w1.setCell ⟨w.heap.size + 1, 0, none⟩ (.int .i64 0)).cell? ⟨w.heap.size + 1, 0, none⟩ = some (.int .i64 0) := blk_cell (blk_set hb4 0 _) 0 rfl
  simp [Leaves, settle, results, Try.results49, go_sem, hc4]
  exact ⟨blk_set_ne hr1 0 _ (by omega), grown_new (grown_two _ _ hg0) (show w.heap.size ≤ w.heap.size + 1 by omega) 0 (.int .i64 0)⟩
set_option maxHeartbeats 1000000 in
theorem fixed32R_stop (g : Nat) (A : Option Addr) (n c : Nat) (l : List Int) (p : Nat) (b : Int) (x : Int) (w : World) (h : RS w g A n c l p b) (hx : x ≠ 0) (hd : rdL l p b 4 = (0, p, x)) :
    Calls Try.prog 50 #[.pointer (some ⟨g, 0, none⟩)] w fun e w' => e = .returned (.int .u32 0) ∧ RD w' g (.slice A n c) p x ∧ w.grownBy w' (some g) := by
  have hmf : ∀ (fn : Fn) (first cap : Array Value) (w : World), (Instr.makeFunc fn first cap).run Try.prog w = .ok (.func fn first cap) w := fun _ _ _ _ => rfl
  have hgl : g < w.heap.size := (Array.getElem?_eq_some_iff.1 h.rd).1
  have h2 : RS ((w.alloc (.cells #[.pointer (some ⟨g, 0, none⟩)] 52)).alloc (.cells #[.int .u32 0] 46)) g A n c l p b := ⟨blk_old (blk_old h.rd _) _, h.rb.below ((below_alloc1 w _).alloc (by simp) _), h.hc, h.hp⟩
  have HD := Lib.hid hd
  have HX := Lib.hid hx
  clear hd hx
  go_enter_defers Try.func50, Try.ntmps50
  obtain ⟨hn1, hn2⟩ := two_new w (.cells #[.pointer (some ⟨g, 0, none⟩)] 52) (.cells #[.int .u32 0] 46)
  have HN := Lib.hid (And.intro hn1 hn2)
  clear hn1 hn2
  go_wp2_with (go_at_call 98; refine (low_stop g A n c l p b x 4 _ h2 HX.out HD.out).mono ?_; rintro e w1 ⟨rfl, k, rfl⟩)
  refine leaves_cons (f := 97) (args := #[.pointer (some ⟨w.heap.size, 0, none⟩), .pointer (some ⟨w.heap.size + 1, 0, none⟩)]) (by simp) (by simp [go_sem]) ?_
  refine (catch97 ⟨w.heap.size, 0, none⟩ ⟨w.heap.size + 1, 0, none⟩ g (.slice A n c) p b x (.int .u32 0) [] _ ?_ ?_ ?_ ?_ ?_).mono ?_
  · exact blk_cell HN.out.1 0 rfl
  · exact h2.rd
  · exact blk_cell HN.out.2 0 rfl
  · exact blk_free HN.out.2 0
  · simp; omega
  rintro e u' w'' ⟨rfl, rfl, w1, hg1, hr1, rfl⟩
  have hg0 : ((w.alloc (.cells #[.pointer (some ⟨g, 0, none⟩)] 52)).alloc (.cells #[.int .u32 0] 46)).grownBy w1 (some g) := ⟨hg1.os, hg1.tape, hg1.output, hg1.size, hg1.block⟩
  have hb4 := blk_grown hg0 (by omega) HN.out.2
  have hc4 : (w1.setCell ⟨w.heap.size + 1, 0, none⟩ (.int .u32 0)).cell? ⟨w.heap.size + 1, 0, none⟩ = some (.int .u32 0) := blk_cell (blk_set hb4 0 _) 0 rfl
  simp [Leaves, settle, results, Try.results50, go_sem, hc4]
  exact ⟨blk_set_ne hr1 0 _ (by omega), grown_new (grown_two _ _ hg0) (show w.heap.size ≤ w.heap.size + 1 by omega) 0 (.int .u32 0)⟩
set_option maxHeartbeats 1000000 in
theorem fixed64R_stop (g : Nat) (A : Option Addr) (n c : Nat) (l : List Int) (p : Nat) (b : Int) (x : Int) (w : World) (h : RS w g A n c l p b) (hx : x ≠ 0) (hd : rdL l p b 8 = (0, p, x)) :
    Calls Try.prog 51 #[.pointer (some ⟨g, 0, none⟩)] w fun e w' => e = .returned (.int .u64 0) ∧ RD w' g (.slice A n c) p x ∧ w.grownBy w' (some g) := by
  have hmf : ∀ (fn : Fn) (first cap : Array Value) (w : World), (Instr.makeFunc fn first cap).run Try.prog w = .ok (.func fn first cap) w := fun _ _ _ _ => rfl
  have hgl : g < w.heap.size := (Array.getElem?_eq_some_iff.1 h.rd).1
  have h2 : RS ((w.alloc (.cells #[.pointer (some ⟨g, 0, none⟩)] 52)).alloc (.cells #[.int .u64 0] 27)) g A n c l p b := ⟨blk_old (blk_old h.rd _) _, h.rb.below ((below_alloc1 w _).alloc (by simp) _), h.hc, h.hp⟩
  have HD := Lib.hid hd
  have HX := Lib.hid hx
  clear hd hx
  go_enter_defers Try.func51, Try.ntmps51
  obtain ⟨hn1, hn2⟩ := two_new w (.cells #[.pointer (some ⟨g, 0, none⟩)] 52) (.cells #[.int .u64 0] 27)
  have HN := Lib.hid (And.intro hn1 hn2)
  clear hn1 hn2
  go_wp2_with (go_at_call 98; refine (low_stop g A n c l p b x 8 _ h2 HX.out HD.out).mono ?_; rintro e w1 ⟨rfl, k, rfl⟩)
  refine leaves_cons (f := 99) (args := #[.pointer (some ⟨w.heap.size, 0, none⟩), .pointer (some ⟨w.heap.size + 1, 0, none⟩)]) (by simp) (by simp [go_sem]) ?_
  refine (catch99 ⟨w.heap.size, 0, none⟩ ⟨w.heap.size + 1, 0, none⟩ g (.slice A n c) p b x (.int .u64 0) [] _ ?_ ?_ ?_ ?_ ?_).mono ?_
  · exact blk_cell HN.out.1 0 rfl
  · exact h2.rd
  · exact blk_cell HN.out.2 0 rfl
  · exact blk_free HN.out.2 0
  · simp; omega
  rintro e u' w'' ⟨rfl, rfl, w1, hg1, hr1, rfl⟩
  have hg0 : ((w.alloc (.cells #[.pointer (some ⟨g, 0, none⟩)] 52)).alloc (.cells #[.int .u64 0] 27)).grownBy w1 (some g) := ⟨hg1.os, hg1.tape, hg1.output, hg1.size, hg1.block⟩
  have hb4 := blk_grown hg0 (by omega) HN.out.2
  have hc4 : (w1.setCell ⟨w.heap.size + 1, 0, none⟩ (.int .u64 0)).cell? ⟨w.heap.size + 1, 0, none⟩ = some (.int .u64 0) := blk_cell (blk_set hb4 0 _) 0 rfl
  simp [Leaves, settle, results, Try.results51, go_sem, hc4]
  exact ⟨blk_set_ne hr1 0 _ (by omega), grown_new (grown_two _ _ hg0) (show w.heap.size ≤ w.heap.size + 1 by omega) 0 (.int .u64 0)⟩
set_option maxHeartbeats 1000000 in
theorem byteR_stop (g : Nat) (A : Option Addr) (n c : Nat) (l : List Int) (p : Nat) (b : Int) (x : Int) (w : World) (h : RS w g A n c l p b) (hx : x ≠ 0) (hd : rdL l p b 1 = (0, p, x)) :
    Calls Try.prog 92 #[.pointer (some ⟨g, 0, none⟩)] w fun e w' => e = .returned (.int .u8 0) ∧ RD w' g (.slice A n c) p x ∧ w.grownBy w' (some g) := by
  have hmf : ∀ (fn : Fn) (first cap : Array Value) (w : World), (Instr.makeFunc fn first cap).run Try.prog w = .ok (.func fn first cap) w := fun _ _ _ _ => rfl
  have hgl : g < w.heap.size := (Array.getElem?_eq_some_iff.1 h.rd).1
  have h2 : RS ((w.alloc (.cells #[.pointer (some ⟨g, 0, none⟩)] 52)).alloc (.cells #[.int .u8 0] 5)) g A n c l p b := ⟨blk_old (blk_old h.rd _) _, h.rb.below ((below_alloc1 w _).alloc (by simp) _), h.hc, h.hp⟩
  have HD := Lib.hid hd
  have HX := Lib.hid hx
  clear hd hx
  go_enter_defers Try.func92, Try.ntmps92
  obtain ⟨hn1, hn2⟩ := two_new w (.cells #[.pointer (some ⟨g, 0, none⟩)] 52) (.cells #[.int .u8 0] 5)
  have HN := Lib.hid (And.intro hn1 hn2)
  clear hn1 hn2
  go_wp2_with (go_at_call 98; refine (low_stop g A n c l p b x 1 _ h2 HX.out HD.out).mono ?_; rintro e w1 ⟨rfl, k, rfl⟩)
  refine leaves_cons (f := 119) (args := #[.pointer (some ⟨w.heap.size, 0, none⟩), .pointer (some ⟨w.heap.size + 1, 0, none⟩)]) (by simp) (by simp [go_sem]) ?_
  refine (catch119 ⟨w.heap.size, 0, none⟩ ⟨w.heap.size + 1, 0, none⟩ g (.slice A n c) p b x (.int .u8 0) [] _ ?_ ?_ ?_ ?_ ?_).mono ?_
  · exact blk_cell HN.out.1 0 rfl
  · exact h2.rd
  · exact blk_cell HN.out.2 0 rfl
  · exact blk_free HN.out.2 0
  · simp; omega
  rintro e u' w'' ⟨rfl, rfl, w1, hg1, hr1, rfl⟩
  have hg0 : ((w.alloc (.cells #[.pointer (some ⟨g, 0, none⟩)] 52)).alloc (.cells #[.int .u8 0] 5)).grownBy w1 (some g) := ⟨hg1.os, hg1.tape, hg1.output, hg1.size, hg1.block⟩
  have hb4 := blk_grown hg0 (by omega) HN.out.2
  have hc4 : (w1.setCell ⟨w.heap.size + 1, 0, none⟩ (.int .u8 0)).cell? ⟨w.heap.size + 1, 0, none⟩ = some (.int .u8 0) := blk_cell (blk_set hb4 0 _) 0 rfl
  simp [Leaves, settle, results, Try.results92, go_sem, hc4]
  exact ⟨blk_set_ne hr1 0 _ (by omega), grown_new (grown_two _ _ hg0) (show w.heap.size ≤ w.heap.size + 1 by omega) 0 (.int .u8 0)⟩
set_option maxHeartbeats 1000000 in
theorem byteR_ok (g : Nat) (A : Option Addr) (n c : Nat) (l : List Int) (p : Nat)  (w : World) (hr : RD w g (.slice A n c) p 0) (hl : RB w A n l) (hc : n ≤ c) (hp : p ≤ n) (hs : 1 ≤ n - p) (hw : IntKind.u8.wrap (lo (l.drop p) 1) = lo (l.drop p) 1) :
    Calls Try.prog 92 #[.pointer (some ⟨g, 0, none⟩)] w fun e w' => e = .returned (.int .u8 (lo (l.drop p) 1)) ∧ RD w' g (.slice A n c) ((p : Int) + (1 : Nat)) 0 ∧ w.grownBy w' (some g) := by
  have hmf : ∀ (fn : Fn) (first cap : Array Value) (w : World), (Instr.makeFunc fn first cap).run Try.prog w = .ok (.func fn first cap) w := fun _ _ _ _ => rfl
  have hgl : g < w.heap.size := (Array.getElem?_eq_some_iff.1 hr).1
  have hr2 : RD ((w.alloc (.cells #[.pointer (some ⟨g, 0, none⟩)] 52)).alloc (.cells #[.int .u8 0] 5)) g (.slice A n c) p 0 := blk_old (blk_old hr _) _
  have hl2 : RB ((w.alloc (.cells #[.pointer (some ⟨g, 0, none⟩)] 52)).alloc (.cells #[.int .u8 0] 5)) A n l := hl.below ((below_alloc1 w _).alloc (by simp) _)
  go_enter_defers Try.func92, Try.ntmps92
  obtain ⟨hn1, hn2⟩ := two_new w (.cells #[.pointer (some ⟨g, 0, none⟩)] 52) (.cells #[.int .u8 0] 5)
  have HN := Lib.hid (And.intro hn1 hn2)
  clear hn1 hn2
  have HG := Lib.hid hgl
  go_wp2_with (first
    | (go_at_call 98; refine (low_ok g A n c l p 1 _ hr2 hl2 hc hp hs (by omega)).mono ?_; rintro e w1 ⟨rfl, hr1, hg1⟩; have hb1 := blk_grown hg1 (by have := HG.out; omega) HN.out.1; have hb2 := blk_grown hg1 (by have := HG.out; omega) HN.out.2; have hq1 := blk_cell hb2 0 rfl; have hz1 := blk_free hb2 0; have hb3 := Lib.hid hb1; have hb4 := Lib.hid hb2; clear hb1 hb2))
  refine leaves_cons (f := 119) (args := #[.pointer (some ⟨w.heap.size, 0, none⟩), .pointer (some ⟨w.heap.size + 1, 0, none⟩)]) (by simp) (by simp [go_sem]) ?_
  refine (idle119 ⟨w.heap.size, 0, none⟩ ⟨w.heap.size + 1, 0, none⟩ (.pointer (some ⟨g, 0, none⟩)) _ ?_).mono ?_
  · exact blk_cell (blk_set_ne hb3.out 0 _ (by omega)) 0 rfl
  rintro e u' w'' ⟨rfl, rfl, rfl⟩
  have hc4 : (w1.setCell ⟨w.heap.size + 1, 0, none⟩ (.int .u8 (lo (l.drop p) 1))).drew.cell? ⟨w.heap.size + 1, 0, none⟩ = some (.int .u8 (lo (l.drop p) 1)) := blk_cell (blk_set hb4.out 0 _) 0 rfl
  simp [Leaves, settle, results, Try.results92, go_sem, hc4]
  refine ⟨blk_set_ne hr1 0 _ (by omega), ?_⟩
  have := grown_new (grown_two _ _ hg1) (show w.heap.size ≤ w.heap.size + 1 by omega) 0 (.int .u8 (lo (l.drop p) 1))
  exact ⟨this.os, this.tape, this.output, this.size, this.block⟩
theorem OB.grownBy {e : TypeId} {w w' : World} {base : Nat} {v : Value} {l : List Int} {row : Option Nat} (h : OB e w base v l) (hg : w.grownBy w' row) (hne : v.ownBlock = none ∨ v.ownBlock ≠ row) : OB e w' base v l := World.ownsRow.kept h hg hne
theorem OB.far {e : TypeId} {w w' : World} {base g : Nat} {v : Value} {l : List Int} (h : OB e w base v l) (hg : w.grownBy w' (some g)) (hlt : g < base) : OB e w' base v l :=
  h.grownBy hg (by
    rcases hv : v.ownBlock with _ | k
    · exact .inl rfl
    · refine .inr fun e => ?_
      injection e with e
      have := (own_blk_lt h k hv).1
      omega)
theorem OB.drewN {e : TypeId} {w : World} {base : Nat} {v : Value} {l : List Int} (h : OB e w base v l) (k : Nat) : OB e (w.drewN k) base v l := h
set_option maxHeartbeats 1000000 in
theorem stringR_own (g : Nat) (A : Option Addr) (n c : Nat) (l : List Int) (p : Nat) (most : Int) (s : List Int) (k : Nat) (w : World) (hr : RD w g (.slice A n c) p 0) (hl : RB w A n l) (hc : n ≤ c) (hp : p ≤ n) (m0 : -9223372036854775808 ≤ most) (m1 : most ≤ 9223372036854775807) (hv : rsI (l.drop p) most = (s, (k : Int), 0)) (hk : p + k ≤ n) :
    Calls Try.prog 52 #[.pointer (some ⟨g, 0, none⟩), .int .i64 most] w fun e w' => ∃ v, e = .returned v ∧ OB 5 w' w.heap.size v s ∧ RD w' g (.slice A n c) ((p : Int) + k) 0 ∧ w.grownBy w' (some g) := by
  have hmf : ∀ (fn : Fn) (first cap : Array Value) (w : World), (Instr.makeFunc fn first cap).run Try.prog w = .ok (.func fn first cap) w := fun _ _ _ _ => rfl
  have hgl : g < w.heap.size := (Array.getElem?_eq_some_iff.1 hr).1
  have ht := hl.top
  obtain ⟨hys, hsl⟩ := rsI_props (l.drop p) most (fun x hx => hl.by_ x (List.mem_of_mem_drop hx))
  rw [hv] at hys hsl
  have HYS := Lib.hid (And.intro hys (show s.length ≤ 140737488355328 by have := hl.len; rw [List.length_drop] at hsl; simp only at hsl; omega))
  clear hys hsl
  have hr2 : RD ((w.alloc (.cells #[.pointer (some ⟨g, 0, none⟩)] 52)).alloc (.cells #[.slice none 0 0] 25)) g (.slice A n c) p 0 := blk_old (blk_old hr _) _
  have hl2 : RB ((w.alloc (.cells #[.pointer (some ⟨g, 0, none⟩)] 52)).alloc (.cells #[.slice none 0 0] 25)) A n l := hl.below ((below_alloc1 w _).alloc (by simp) _)
  go_enter_defers Try.func52, Try.ntmps52
  obtain ⟨hn1, hn2⟩ := two_new w (.cells #[.pointer (some ⟨g, 0, none⟩)] 52) (.cells #[.slice none 0 0] 25)
  have HN := Lib.hid (And.intro hn1 hn2)
  clear hn1 hn2
  have HG := Lib.hid hgl
  go_wp2_with (first
    | (go_at_call 101; refine (rest_ok g A n c l p _ hr2 hl2 hc hp).mono ?_; rintro e w1 ⟨A', c', kk, rfl, hb, hcc, rfl⟩)
    | (go_at_call 24; refine (rstr_any A' (n - p) c' (l.drop p) most _ (hb.drewN kk) hcc m0 m1).mono ?_; rw [hv]; rintro e w3 ⟨v3, rfl, hO3, hw3⟩; obtain ⟨A4, n4, c4, rfl, hc4, hb4⟩ := hO3.readN HYS.out.1 HYS.out.2; have HO3 := Lib.hid hO3; clear hO3; have hp3 : w3.heap[w.heap.size]? = _ := (hw3.block _ (lt_of_block HN.out.1)).trans HN.out.1; have hq3 : w3.heap[w.heap.size + 1]? = _ := (hw3.block _ (lt_of_block HN.out.2)).trans HN.out.2; have hr3 : RD w3 g (.slice A n c) p 0 := (hw3.block _ (lt_of_block hr2)).trans hr2; have HB := Lib.hid (And.intro hp3 (And.intro hq3 hr3)); have ca := blk_cell hp3 0 rfl; have cb := blk_cell hq3 0 rfl; have cc := blk_free hq3 0; clear hp3 hq3; have hr4 : RD (w3.setCell ⟨w.heap.size + 1, 0, none⟩ (.slice A4 n4 c4)) g (.slice A n c) p 0 := (blk_set_ne hr3 0 _ (by have := HG.out; omega)); have cd : (w3.setCell ⟨w.heap.size + 1, 0, none⟩ (.slice A4 n4 c4)).cell? ⟨w.heap.size, 0, none⟩ = some (.pointer (some ⟨g, 0, none⟩)) := blk_cell (blk_set_ne HB.out.1 0 _ (by omega)) 0 rfl)
    | (go_at_call 102; refine (took_ok g (.slice A n c) p k _ hr4 (by omega) (by omega) (by omega)).mono ?_; rintro e w4 ⟨rfl, hr5, hg5⟩; have hq5 := blk_grown hg5 (by have := HG.out; omega) (blk_set HB.out.2.1 0 (.slice A4 n4 c4)); have HQ5 := Lib.hid hq5; have ce := blk_cell hq5 0 rfl; have cf := blk_free hq5 0; clear hq5))
  refine leaves_cons (f := 100) (args := #[.pointer (some ⟨w.heap.size, 0, none⟩), .pointer (some ⟨w.heap.size + 1, 0, none⟩)]) (by simp) (by simp [go_sem]) ?_
  refine (idle100 ⟨w.heap.size, 0, none⟩ ⟨w.heap.size + 1, 0, none⟩ (.pointer (some ⟨g, 0, none⟩)) _ ?_).mono ?_
  · exact blk_cell (blk_set_ne (blk_grown hg5 (by omega) (blk_set_ne HB.out.1 0 _ (by omega))) 0 _ (by omega)) 0 rfl
  rintro e u' w'' ⟨rfl, rfl, rfl⟩
  have hc6 : (w4.setCell ⟨w.heap.size + 1, 0, none⟩ (.slice A4 n4 c4)).drew.cell? ⟨w.heap.size + 1, 0, none⟩ = some (.slice A4 n4 c4) := blk_cell (blk_set HQ5.out 0 _) 0 rfl
  have g1 : w.grownBy w3 (some g) := grown_two _ _ ⟨hw3.os, hw3.tape, hw3.output, hw3.size, fun i hi _ => hw3.block i hi⟩
  have g3 := (grown_new g1 (show w.heap.size ≤ w.heap.size + 1 by omega) 0 (.slice A4 n4 c4)).trans hg5
  have g4 := grown_new g3 (show w.heap.size ≤ w.heap.size + 1 by omega) 0 (.slice A4 n4 c4)
  have hsz2 : (((w.alloc (.cells #[.pointer (some ⟨g, 0, none⟩)] 52)).alloc (.cells #[.slice none 0 0] 25)).drewN kk).heap.size = w.heap.size + 2 := by
    show (((w.alloc (.cells #[.pointer (some ⟨g, 0, none⟩)] 52)).alloc (.cells #[.slice none 0 0] 25))).heap.size = _
    simp
  have o0 : OB 5 w3 (w.heap.size + 2) (.slice A4 n4 c4) s := HO3.out.lower (by rw [hsz2]; omega)
  have o1 : OB 5 (w3.setCell ⟨w.heap.size + 1, 0, none⟩ (.slice A4 n4 c4)) (w.heap.size + 2) (.slice A4 n4 c4) s := o0.far (grown_setCell 0 _) (by omega)
  have o2 : OB 5 w4 (w.heap.size + 2) (.slice A4 n4 c4) s := o1.far hg5 (by omega)
  have o3 : OB 5 (w4.setCell ⟨w.heap.size + 1, 0, none⟩ (.slice A4 n4 c4)) (w.heap.size + 2) (.slice A4 n4 c4) s := o2.far (grown_setCell 0 _) (by omega)
  have o4 := o3.lower (show w.heap.size ≤ w.heap.size + 2 by omega)
  have hr6 : RD (w4.setCell ⟨w.heap.size + 1, 0, none⟩ (.slice A4 n4 c4)) g (.slice A n c) ((p : Int) + k) 0 := blk_set_ne hr5 0 _ (by omega)
  have R := Lib.hid (And.intro o4 (And.intro hr6 g4))
  clear o0 o1 o2 o3 o4 hr6 g4 g1 g3 hsz2
  simp [Leaves, settle, results, Try.results52, go_sem, hc6]
  exact ⟨R.out.1, R.out.2.1, ⟨R.out.2.2.os, R.out.2.2.tape, R.out.2.2.output, R.out.2.2.size, R.out.2.2.block⟩⟩
set_option maxHeartbeats 1000000 in
theorem stringR_bad (g : Nat) (A : Option Addr) (n c : Nat) (l : List Int) (p : Nat) (b most : Int) (w : World) (h : RS w g A n c l p b) (hx : b ≠ 0) :
    Calls Try.prog 52 #[.pointer (some ⟨g, 0, none⟩), .int .i64 most] w fun e w' => e = .returned (.slice none 0 0) ∧ RD w' g (.slice A n c) p b ∧ w.grownBy w' (some g) := by
  have hmf : ∀ (fn : Fn) (first cap : Array Value) (w : World), (Instr.makeFunc fn first cap).run Try.prog w = .ok (.func fn first cap) w := fun _ _ _ _ => rfl
  have hgl : g < w.heap.size := (Array.getElem?_eq_some_iff.1 h.rd).1
  have h2 : RS ((w.alloc (.cells #[.pointer (some ⟨g, 0, none⟩)] 52)).alloc (.cells #[.slice none 0 0] 25)) g A n c l p b := ⟨blk_old (blk_old h.rd _) _, h.rb.below ((below_alloc1 w _).alloc (by simp) _), h.hc, h.hp⟩
  have HX := Lib.hid hx
  clear hx
  have hr := h2.rd
  go_enter_defers Try.func52, Try.ntmps52
  obtain ⟨hn1, hn2⟩ := two_new w (.cells #[.pointer (some ⟨g, 0, none⟩)] 52) (.cells #[.slice none 0 0] 25)
  have HN := Lib.hid (And.intro hn1 hn2)
  clear hn1 hn2
  go_wp2_with (go_at_call 101; refine (rest_bad g _ p b _ hr HX.out).mono ?_; rintro e w1 ⟨rfl, rfl⟩)
  refine leaves_cons (f := 100) (args := #[.pointer (some ⟨w.heap.size, 0, none⟩), .pointer (some ⟨w.heap.size + 1, 0, none⟩)]) (by simp) (by simp [go_sem]) ?_
  refine (catch100 ⟨w.heap.size, 0, none⟩ ⟨w.heap.size + 1, 0, none⟩ g (.slice A n c) p b b (.slice none 0 0) [] _ ?_ ?_ ?_ ?_ ?_).mono ?_
  · exact blk_cell HN.out.1 0 rfl
  · exact h2.rd
  · exact blk_cell HN.out.2 0 rfl
  · exact blk_free HN.out.2 0
  · simp; omega
  rintro e u' w'' ⟨rfl, rfl, w1, hg1, hr1, rfl⟩
  have hg0 : ((w.alloc (.cells #[.pointer (some ⟨g, 0, none⟩)] 52)).alloc (.cells #[.slice none 0 0] 25)).grownBy w1 (some g) := ⟨hg1.os, hg1.tape, hg1.output, hg1.size, hg1.block⟩
  have hb4 := blk_grown hg0 (by omega) HN.out.2
  have hc4 : (w1.setCell ⟨w.heap.size + 1, 0, none⟩ (.slice none 0 0)).cell? ⟨w.heap.size + 1, 0, none⟩ = some (.slice none 0 0) := blk_cell (blk_set hb4 0 _) 0 rfl
  simp [Leaves, settle, results, Try.results52, go_sem, hc4]
  exact ⟨blk_set_ne hr1 0 _ (by omega), grown_new (grown_two _ _ hg0) (show w.heap.size ≤ w.heap.size + 1 by omega) 0 (.slice none 0 0)⟩
set_option maxHeartbeats 1000000 in
theorem stringR_no (g : Nat) (A : Option Addr) (n c : Nat) (l : List Int) (p : Nat) (most x : Int) (w : World) (h : RS w g A n c l p 0) (hx : x ≠ 0) (m0 : -9223372036854775808 ≤ most) (m1 : most ≤ 9223372036854775807) (hv : rsI (l.drop p) most = ([], 0, x)) :
    Calls Try.prog 52 #[.pointer (some ⟨g, 0, none⟩), .int .i64 most] w fun e w' => e = .returned (.slice none 0 0) ∧ RD w' g (.slice A n c) p x ∧ w.grownBy w' (some g) := by
  have hmf : ∀ (fn : Fn) (first cap : Array Value) (w : World), (Instr.makeFunc fn first cap).run Try.prog w = .ok (.func fn first cap) w := fun _ _ _ _ => rfl
  have hgl : g < w.heap.size := (Array.getElem?_eq_some_iff.1 h.rd).1
  have hc := h.hc
  have hp := h.hp
  have hr2 : RD ((w.alloc (.cells #[.pointer (some ⟨g, 0, none⟩)] 52)).alloc (.cells #[.slice none 0 0] 25)) g (.slice A n c) p 0 := blk_old (blk_old h.rd _) _
  have hl2 : RB ((w.alloc (.cells #[.pointer (some ⟨g, 0, none⟩)] 52)).alloc (.cells #[.slice none 0 0] 25)) A n l := h.rb.below ((below_alloc1 w _).alloc (by simp) _)
  have HX := Lib.hid hx
  clear hx
  go_enter_defers Try.func52, Try.ntmps52
  obtain ⟨hn1, hn2⟩ := two_new w (.cells #[.pointer (some ⟨g, 0, none⟩)] 52) (.cells #[.slice none 0 0] 25)
  have HN := Lib.hid (And.intro hn1 hn2)
  clear hn1 hn2
  have HG := Lib.hid hgl
  go_wp2_with (first
    | (go_at_call 101; refine (rest_ok g A n c l p _ hr2 hl2 hc hp).mono ?_; rintro e w1 ⟨A', c', kk, rfl, hb, hcc, rfl⟩)
    | (go_at_call 24; refine (rstr_any A' (n - p) c' (l.drop p) most _ (hb.drewN kk) hcc m0 m1).mono ?_; rw [hv]; rintro e w3 ⟨v3, rfl, hO3, hw3⟩; obtain ⟨A4, n4, c4, rfl, hc4, hb4⟩ := hO3.readN (by intro y hy; simp at hy) (by simp); clear hO3; have hp3 : w3.heap[w.heap.size]? = _ := (hw3.block _ (lt_of_block HN.out.1)).trans HN.out.1; have hq3 : w3.heap[w.heap.size + 1]? = _ := (hw3.block _ (lt_of_block HN.out.2)).trans HN.out.2; have hr3 : RD w3 g (.slice A n c) p 0 := (hw3.block _ (lt_of_block hr2)).trans hr2; have HB := Lib.hid (And.intro hp3 (And.intro hq3 hr3)); have ca := blk_cell hp3 0 rfl; have cb := blk_cell hq3 0 rfl; have cc := blk_free hq3 0; clear hp3 hq3; have hr4 : RD (w3.setCell ⟨w.heap.size + 1, 0, none⟩ (.slice A4 n4 c4)) g (.slice A n c) p 0 := (blk_set_ne hr3 0 _ (by have := HG.out; omega)); have cd : (w3.setCell ⟨w.heap.size + 1, 0, none⟩ (.slice A4 n4 c4)).cell? ⟨w.heap.size, 0, none⟩ = some (.pointer (some ⟨g, 0, none⟩)) := blk_cell (blk_set_ne HB.out.1 0 _ (by omega)) 0 rfl)
    | (go_at_call 102; refine (took_bad g 0 x _ HX.out).mono ?_; rintro e w4 ⟨rfl, rfl⟩))
  refine leaves_cons (f := 100) (args := #[.pointer (some ⟨w.heap.size, 0, none⟩), .pointer (some ⟨w.heap.size + 1, 0, none⟩)]) (by simp) (by simp [go_sem]) ?_
  refine (catch100 ⟨w.heap.size, 0, none⟩ ⟨w.heap.size + 1, 0, none⟩ g (.slice A n c) p 0 x (.slice A4 n4 c4) [] _ ?_ ?_ ?_ ?_ ?_).mono ?_
  · exact cd
  · exact hr4
  · exact blk_cell (blk_set HB.out.2.1 0 _) 0 rfl
  · exact blk_free (blk_set HB.out.2.1 0 _) 0
  · simp; omega
  rintro e u' w'' ⟨rfl, rfl, w5, hg5, hr5, rfl⟩
  have hq5 := blk_grown hg5 (by omega) (blk_set HB.out.2.1 0 (.slice A4 n4 c4))
  have hc4 : (w5.setCell ⟨w.heap.size + 1, 0, none⟩ (.slice none 0 0)).cell? ⟨w.heap.size + 1, 0, none⟩ = some (.slice none 0 0) := blk_cell (blk_set hq5 0 _) 0 rfl
  have g1 : w.grownBy w3 (some g) := grown_two _ _ ⟨hw3.os, hw3.tape, hw3.output, hw3.size, fun i hi _ => hw3.block i hi⟩
  have g3 := (grown_new g1 (show w.heap.size ≤ w.heap.size + 1 by omega) 0 (.slice A4 n4 c4)).trans hg5
  have g4 := grown_new g3 (show w.heap.size ≤ w.heap.size + 1 by omega) 0 (.slice none 0 0)
  have R := Lib.hid (And.intro hr5 g4)
  clear g1 g3 g4
  simp [Leaves, settle, results, Try.results52, go_sem, hc4]
  exact ⟨blk_set_ne R.out.1 0 _ (by omega), R.out.2⟩
/-! each call whole -/
theorem rs_of {w w' : World} {g : Nat} {A : Option Addr} {n c : Nat} {l : List Int} {p p' : Nat} {b b' : Int} (h : RS w g A n c l p b) (hp' : p' ≤ n) (hr : RD w' g (.slice A n c) p' b') (hg : w.grownBy w' (some g)) : RS w' g A n c l p' b' :=
  ⟨hr, h.rb.grown h.rd (fun x => by simp) hg, h.hc, hp'⟩
theorem varintR_any (g : Nat) (A : Option Addr) (n c : Nat) (l : List Int) (p : Nat) (b most : Int) (w : World) (h : RS w g A n c l p b) :
    Calls Try.prog 48 #[.pointer (some ⟨g, 0, none⟩), .int .u64 most] w fun e w' => e = .returned (.int .u64 (rdN l p b most).1) ∧ RS w' g A n c l (rdN l p b most).2.1 (rdN l p b most).2.2 ∧ w.grownBy w' (some g) := by
  rcases rdN_cases l h.rb.by_ p (by rw [h.rb.len]; exact h.hp) b most with ⟨y, j, rfl, h2, h3, h4, _, _, h1⟩ | ⟨e, he, h1, _⟩
  · rw [h.rb.len] at h4
    refine (varintR_ok g A n c l p most y j w h.rd h.rb h.hc h.hp h2 h4 h3).mono ?_
    rintro e w' ⟨rfl, hr, hg⟩
    rw [h1]
    exact ⟨rfl, rs_of h h4 (by rw [Int.natCast_add]; exact hr) hg, hg⟩
  · refine (varintR_stop g A n c l p b most e w h he h1).mono ?_
    rintro e w' ⟨rfl, hr, hg⟩
    rw [h1]
    exact ⟨rfl, rs_of h h.hp hr hg, hg⟩
theorem signedR_any (g : Nat) (A : Option Addr) (n c : Nat) (l : List Int) (p : Nat) (b : Int) (w : World) (h : RS w g A n c l p b) :
    Calls Try.prog 49 #[.pointer (some ⟨g, 0, none⟩)] w fun e w' => e = .returned (.int .i64 (zagI (rdN l p b 18446744073709551615).1)) ∧ RS w' g A n c l (rdN l p b 18446744073709551615).2.1 (rdN l p b 18446744073709551615).2.2 ∧ w.grownBy w' (some g) := by
  rcases rdN_cases l h.rb.by_ p (by rw [h.rb.len]; exact h.hp) b 18446744073709551615 with ⟨y, j, rfl, h2, h3, h4, h5, _, h1⟩ | ⟨e, he, h1, _⟩
  · rw [h.rb.len] at h4
    refine (signedR_ok g A n c l p y j w h.rd h.rb h.hc h.hp h2 h4 h5 h3).mono ?_
    rintro e w' ⟨rfl, hr, hg⟩
    rw [h1]
    exact ⟨rfl, rs_of h h4 (by rw [Int.natCast_add]; exact hr) hg, hg⟩
  · refine (signedR_stop g A n c l p b e w h he h1).mono ?_
    rintro e w' ⟨rfl, hr, hg⟩
    rw [h1]
    exact ⟨rfl, rs_of h h.hp hr hg, hg⟩
theorem low_small {l : List Int} (hb : BY l) (k : Nat) : 0 ≤ lo l k ∧ lo l k < 2 ^ (8 * k) := lo_rng (fun j => hb.nth j) k
theorem fixed32R_any (g : Nat) (A : Option Addr) (n c : Nat) (l : List Int) (p : Nat) (b : Int) (w : World) (h : RS w g A n c l p b) :
    Calls Try.prog 50 #[.pointer (some ⟨g, 0, none⟩)] w fun e w' => e = .returned (.int .u32 (rdL l p b 4).1) ∧ RS w' g A n c l (rdL l p b 4).2.1 (rdL l p b 4).2.2 ∧ w.grownBy w' (some g) := by
  rcases rdL_cases l p b 4 with ⟨rfl, h2, h1⟩ | ⟨e, he, h1, _⟩
  · rw [h.rb.len] at h2
    have hp := h.hp
    refine (fixed32R_ok g A n c l p w h.rd h.rb h.hc h.hp h2 ?_).mono ?_
    · obtain ⟨q0, q1⟩ := low_small (by_drop h.rb.by_ p) 4
      rw [IntKind.wrap_u32]; omega
    rintro e w' ⟨rfl, hr, hg⟩
    rw [h1]
    exact ⟨rfl, rs_of h (show p + 4 ≤ n by omega) (by rw [Int.natCast_add]; exact hr) hg, hg⟩
  · refine (fixed32R_stop g A n c l p b e w h he h1).mono ?_
    rintro e w' ⟨rfl, hr, hg⟩
    rw [h1]
    exact ⟨rfl, rs_of h h.hp hr hg, hg⟩
theorem fixed64R_any (g : Nat) (A : Option Addr) (n c : Nat) (l : List Int) (p : Nat) (b : Int) (w : World) (h : RS w g A n c l p b) :
    Calls Try.prog 51 #[.pointer (some ⟨g, 0, none⟩)] w fun e w' => e = .returned (.int .u64 (rdL l p b 8).1) ∧ RS w' g A n c l (rdL l p b 8).2.1 (rdL l p b 8).2.2 ∧ w.grownBy w' (some g) := by
  rcases rdL_cases l p b 8 with ⟨rfl, h2, h1⟩ | ⟨e, he, h1, _⟩
  · rw [h.rb.len] at h2
    have hp := h.hp
    refine (fixed64R_ok g A n c l p w h.rd h.rb h.hc h.hp h2).mono ?_
    rintro e w' ⟨rfl, hr, hg⟩
    rw [h1]
    exact ⟨rfl, rs_of h (show p + 8 ≤ n by omega) (by rw [Int.natCast_add]; exact hr) hg, hg⟩
  · refine (fixed64R_stop g A n c l p b e w h he h1).mono ?_
    rintro e w' ⟨rfl, hr, hg⟩
    rw [h1]
    exact ⟨rfl, rs_of h h.hp hr hg, hg⟩
theorem byteR_any (g : Nat) (A : Option Addr) (n c : Nat) (l : List Int) (p : Nat) (b : Int) (w : World) (h : RS w g A n c l p b) :
    Calls Try.prog 92 #[.pointer (some ⟨g, 0, none⟩)] w fun e w' => e = .returned (.int .u8 (rdL l p b 1).1) ∧ RS w' g A n c l (rdL l p b 1).2.1 (rdL l p b 1).2.2 ∧ w.grownBy w' (some g) := by
  rcases rdL_cases l p b 1 with ⟨rfl, h2, h1⟩ | ⟨e, he, h1, _⟩
  · rw [h.rb.len] at h2
    have hp := h.hp
    refine (byteR_ok g A n c l p w h.rd h.rb h.hc h.hp h2 ?_).mono ?_
    · obtain ⟨q0, q1⟩ := low_small (by_drop h.rb.by_ p) 1
      rw [IntKind.wrap_u8]; omega
    rintro e w' ⟨rfl, hr, hg⟩
    rw [h1]
    exact ⟨rfl, rs_of h (show p + 1 ≤ n by omega) (by rw [Int.natCast_add]; exact hr) hg, hg⟩
  · refine (byteR_stop g A n c l p b e w h he h1).mono ?_
    rintro e w' ⟨rfl, hr, hg⟩
    rw [h1]
    exact ⟨rfl, rs_of h h.hp hr hg, hg⟩
theorem stringR_any (g : Nat) (A : Option Addr) (n c : Nat) (l : List Int) (p : Nat) (b most : Int) (w : World) (h : RS w g A n c l p b) (m0 : -9223372036854775808 ≤ most) (m1 : most ≤ 9223372036854775807) :
    Calls Try.prog 52 #[.pointer (some ⟨g, 0, none⟩), .int .i64 most] w fun e w' => ∃ v, e = .returned v ∧ OB 5 w' w.heap.size v (rdS l p b most).1 ∧ RS w' g A n c l (rdS l p b most).2.1 (rdS l p b most).2.2 ∧ w.grownBy w' (some g) := by
  rcases rdS_cases l h.rb.by_ p (by rw [h.rb.len]; exact h.hp) b most with ⟨s, k, rfl, h2, h4, _, _, h1⟩ | ⟨e, he, h1, hh⟩
  · rw [h.rb.len] at h4
    refine (stringR_own g A n c l p most s k w h.rd h.rb h.hc h.hp m0 m1 h2 h4).mono ?_
    rintro e w' ⟨v, rfl, ho, hr, hg⟩
    rw [h1]
    exact ⟨v, rfl, ho, rs_of h h4 (by rw [Int.natCast_add]; exact hr) hg, hg⟩
  · rw [h1]
    rcases hh with rfl | ⟨rfl, hh⟩
    · refine (stringR_bad g A n c l p b most w h he).mono ?_
      rintro e w' ⟨rfl, hr, hg⟩
      exact ⟨_, rfl, OB.nil _ _ _, rs_of h h.hp hr hg, hg⟩
    · refine (stringR_no g A n c l p most e w h he m0 m1 hh).mono ?_
      rintro e w' ⟨rfl, hr, hg⟩
      exact ⟨_, rfl, OB.nil _ _ _, rs_of h h.hp hr hg, hg⟩
end Go.Proofs.Ythggicgbcgeggaa
