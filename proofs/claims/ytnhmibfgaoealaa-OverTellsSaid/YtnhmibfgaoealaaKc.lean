/-
  stream.Clock, stream.Only; few of layers 15 and 16.
-/
import Derived.Test.YtnhmibfgaoealaaKb
namespace Go.Proofs.Ytnhmibfgaoealaa
open Go.RowKit
set_option linter.unusedVariables false
set_option linter.unusedSimpArgs false

theorem clock1 (x : SegL) (W : World) : Calls Try.prog 101 #[.agg #[.int .i64 x.from_, .int .i64 x.to, .int .i64 x.kind, .int .i64 x.id, .int .i64 x.code]] W (RetB W true) := by
  go_enter Try.func101, Try.ntmps101
  go_wp2
  go_ret
  exact ⟨rfl, (Ext.refl _).alloc _⟩
theorem only1 (x : SegL) (k : Int) (B : Nat) (W : World) (hB : B < W.heap.size) (hc : W.cell? ⟨B, 0, none⟩ = some (.int .i64 k)) : Calls Try.prog 103 #[.agg #[.int .i64 x.from_, .int .i64 x.to, .int .i64 x.kind, .int .i64 x.id, .int .i64 x.code], .pointer (some ⟨B, 0, none⟩)] W (RetB W (x.kind == k)) := by
  have hne : B ≠ W.heap.size := by omega
  obtain ⟨a, b, m, d, e⟩ := x
  show Calls Try.prog 103 #[.agg #[.int .i64 a, .int .i64 b, .int .i64 m, .int .i64 d, .int .i64 e], .pointer (some ⟨B, 0, none⟩)] W (RetB W (m == k))
  by_cases h : m = k
  · subst h
    rw [show (m == m) = true by simp]
    go_enter Try.func103, Try.ntmps103
    go_wp2
    go_ret
    exact ⟨rfl, (Ext.refl _).alloc _⟩
  · have f1 : (m == k) = false := beq_false_of_ne h
    rw [f1]
    go_enter Try.func103, Try.ntmps103
    go_wp2
    go_ret
    exact ⟨rfl, (Ext.refl _).alloc _⟩

theorem pClock {w : World} {A : Option Addr} {l : List SegL} (h : Rg w A l) (hl : l.length ≤ 100000) (c : Nat) : Calls Try.prog 67 #[.slice A l.length c] w (RetS w (clockL l)) := by
  have e : Sp.norm ((l.filter fun _ => true).map SegL.span) = clockL l := by rw [filter_true]; rfl
  go_enter Try.func67, Try.ntmps67
  go_wp2_with fail
  refine (sEq (pSpans (fun _ => true) 101 #[] (enters_of Try.func101 (by kernel_rfl) rfl) (fun W x _ => clock1 x W) h hl c) e).mono ?_
  rintro e w1 ⟨A1, c1, rfl, r1, x1, o1⟩
  go_wp2
  go_ret
  exact ⟨A1, c1, rfl, r1, x1, o1⟩
theorem pOnly {w : World} {A : Option Addr} {l : List SegL} (h : Rg w A l) (hl : l.length ≤ 100000) (c : Nat) (k : Int) : Calls Try.prog 69 #[.slice A l.length c, .int .i64 k] w (RetS w (onlyL l k)) := by
  have e : Sp.norm ((l.filter fun s => s.kind == k).map SegL.span) = onlyL l k := rfl
  go_enter Try.func69, Try.ntmps69
  go_wp2_with fail
  refine (sEq (pSpans (fun s => s.kind == k) 103 #[.pointer (some ⟨w.heap.size, 0, none⟩)] (enters_of Try.func103 (by kernel_rfl) rfl) (fun W x X => only1 x k w.heap.size W (((Bx.new w [.int .i64 k] 3).ext X).lt) (((Bx.new w [.int .i64 k] 3).ext X).cell 0 _ rfl)) (h.alloc _) hl c) e).mono ?_
  rintro e w1 ⟨A1, c1, rfl, r1, x1, o1⟩
  go_wp2
  go_ret
  exact ⟨A1, c1, rfl, r1, ((Ext.refl w).alloc _).trans x1, own_base o1 (by simp)⟩

set_option maxRecDepth 100000 in
set_option maxHeartbeats 1000000 in
theorem few15A (cs : List Value) (hcs : cs.length = 23) (p : Prop) (l : List SegL) (A : Option Addr) (c : Nat) (hl : l.length ≤ maxLen) (w : World) (h : Rg w A l)
    (kF : ∀ W, Ext w W → Calls Try.prog 58 #[.agg cs.toArray] W (RetP W p)) :
    Calls Try.prog 65 #[.agg cs.toArray, .slice A l.length c] w (RetP w (p ∧ l.length ≤ 30 ∧ ∀ x ∈ l, 0 ≤ x.from_ ∧ x.from_ ≤ 33000000 ∧ x.to ≤ 33000000)) := by
  replace h := Lib.hid h; replace kF := Lib.hid kF
  have hl2 : l.length ≤ 9223372036854775807 := hl
  clear hl
  go_enter Try.func65, Try.ntmps65
  go_wp2_with fail
  go_loopw [5] (fun i wr => ∃ k : Nat, k ≤ l.length ∧ i = .int .i64 k ∧ Hid (∀ x ∈ l.take k, 0 ≤ x.from_ ∧ x.from_ ≤ 33000000 ∧ x.to ≤ 33000000) ∧ Hid (Ext w wr) ∧ Hid (Bx wr w.heap.size cs 35)) (fun i _ => l.length - (intOf i).toNat)
  case atStart => exact ⟨0, Nat.zero_le _, rfl, (show Hid _ from fun x hx => by simp at hx), (Ext.refl w).alloc _, Bx.new w cs _⟩
  case round =>
    obtain ⟨k, hk, rfl, HP, HX, HB⟩ := hrel
    by_cases hlt : k < l.length
    · obtain ⟨b, off, x, rfl, hbB, hx, c0, c1, _, _, _⟩ := h.out.atG HX.out hlt
      obtain ⟨p, hp⟩ : ∃ p, x.from_ = p := ⟨_, rfl⟩
      obtain ⟨q, hq⟩ : ∃ q, x.to = q := ⟨_, rfl⟩
      rw [hp] at c0; rw [hq] at c1; replace hp := Lib.hid hp; replace hq := Lib.hid hq
      have q3 : (k : Int) < (l.length : Int) := by omega
      have q4 : (0 : Int) ≤ (k : Int) := by omega
      by_cases g1 : p < 0
      · go_wp2_with fail
        go_quiet (fail)
        go_wp2
        go_ret
        exact ⟨⟨_, rfl, fun h => by cases h⟩, HX.out.drewN _⟩
      · have f1 : decide (p < 0) = false := decide_eq_false g1
        by_cases g2 : 33000000 < p
        · go_wp2_with fail
          go_quiet (fail)
          go_wp2
          go_ret
          exact ⟨⟨_, rfl, fun h => by cases h⟩, HX.out.drewN _⟩
        · have f2 : decide (33000000 < p) = false := decide_eq_false g2
          by_cases g3 : 33000000 < q
          · go_wp2_with fail
            go_quiet (fail)
            go_wp2
            go_ret
            exact ⟨⟨_, rfl, fun h => by cases h⟩, HX.out.drewN _⟩
          · have f3 : decide (33000000 < q) = false := decide_eq_false g3
            obtain ⟨z, hz⟩ : ∃ z, IntKind.i64.wrap (q - p) = z := ⟨_, rfl⟩
            have g0 : Hid ((0 ≤ p ∧ p ≤ 33000000) ∧ q ≤ 33000000) := ⟨⟨by omega, by omega⟩, by omega⟩
            clear g1 g2 g3
            by_cases g4 : 864000 < z
            · have f4 : decide (864000 < z) = true := decide_eq_true g4
              go_wp2_with fail
              go_quiet (fail)
              go_wp2
              go_ret
              exact ⟨⟨_, rfl, fun h => by cases h⟩, HX.out.drewN _⟩
            · have f4 : decide (864000 < z) = false := decide_eq_false g4
              go_wp2_with fail
              go_quiet (fail)
              go_wp2
              go_roundw
              case rel =>
                refine ⟨k + 1, by omega, by go_num, ?_, HX.out.drewN _, HB.out.drewN _⟩
                show ∀ x ∈ l.take (k + 1), _
                rw [take_snoc hx.out]
                intro x hm
                rcases List.mem_append.1 hm with h | h
                · exact HP.out x h
                · simp at h; subst h; rw [hp.out, hq.out]; exact ⟨g0.out.1.1, g0.out.1.2, g0.out.2⟩
              case measure => simp [intOf]; omega
    · obtain rfl : k = l.length := by omega
      rw [List.take_length] at HP
      have hb := HB.out
      have hi := Lib.hid (su_size hcs)
      go_wp2_with (first | (refine load_box rfl 35 _ rfl _ rfl _ _ hb _ Try.underlying35 rfl hi.out ?_))
      refine (kF.out _ HX.out).mono ?_
      rintro e w1 ⟨⟨b, rfl, hb2⟩, x1⟩
      clear hb hi
      cases b
      · clear hb2
        go_wp2
        go_ret
        exact ⟨⟨_, rfl, fun h => by cases h⟩, HX.out.trans x1⟩
      · have hp := hb2 rfl
        replace hp := Lib.hid hp
        clear hb2
        go_wp2
        go_ret
        exact ⟨⟨_, rfl, fun h => ⟨hp.out, by have := of_decide_eq_true h; omega, HP.out⟩⟩, HX.out.trans x1⟩

def Few15 (s : Su) (l : List SegL) : Prop := SuFew s ∧ l.length ≤ 30 ∧ ∀ x ∈ l, 0 ≤ x.from_ ∧ x.from_ ≤ 33000000 ∧ x.to ≤ 33000000
theorem pFew15 (s : Su) (h : Sh) {w : World} {A : Option Addr} {l : List SegL} (hA : Rg w A l) (hl : l.length ≤ maxLen) (c : Nat) :
    Calls Try.prog 65 #[.agg (s.cells h).toArray, .slice A l.length c] w (RetP w (Few15 s l)) :=
  few15A (s.cells h) rfl (SuFew s) l A c hl w hA (fun W _ => (pFew s h W).mono fun _ _ ⟨⟨b, he, hb⟩, x⟩ => ⟨⟨b, he, hb.1⟩, x⟩)
set_option maxRecDepth 100000 in
set_option maxHeartbeats 1000000 in
theorem few16A (cs : List Value) (hcs : cs.length = 23) (p : Prop) (l : List Sp.S) (A : Option Addr) (c : Nat) (hl : l.length ≤ maxLen) (w : World) (h : Rs w A l)
    (kF : ∀ W, Ext w W → Calls Try.prog 58 #[.agg cs.toArray] W (RetP W p)) :
    Calls Try.prog 61 #[.agg cs.toArray, .slice A l.length c] w (RetP w (p ∧ l.length ≤ 30 ∧ ∀ x ∈ l, 0 ≤ x.1 ∧ x.1 ≤ 33000000 ∧ x.2 ≤ 33000000)) := by
  replace h := Lib.hid h; replace kF := Lib.hid kF
  have hl2 : l.length ≤ 9223372036854775807 := hl
  clear hl
  go_enter Try.func61, Try.ntmps61
  go_wp2_with fail
  go_loopw [5] (fun i wr => ∃ k : Nat, k ≤ l.length ∧ i = .int .i64 k ∧ Hid (∀ x ∈ l.take k, 0 ≤ x.1 ∧ x.1 ≤ 33000000 ∧ x.2 ≤ 33000000) ∧ Hid (Ext w wr) ∧ Hid (Bx wr w.heap.size cs 35)) (fun i _ => l.length - (intOf i).toNat)
  case atStart => exact ⟨0, Nat.zero_le _, rfl, (show Hid _ from fun x hx => by simp at hx), (Ext.refl w).alloc _, Bx.new w cs _⟩
  case round =>
    obtain ⟨k, hk, rfl, HP, HX, HB⟩ := hrel
    by_cases hlt : k < l.length
    · obtain ⟨b, off, p, q, rfl, hbB, hx, c0, c1⟩ := Rd.atS h.out HX.out hlt
      have q3 : (k : Int) < (l.length : Int) := by omega
      have q4 : (0 : Int) ≤ (k : Int) := by omega
      by_cases g1 : p < 0
      · go_wp2_with fail
        go_quiet (fail)
        go_wp2
        go_ret
        exact ⟨⟨_, rfl, fun h => by cases h⟩, HX.out.drewN _⟩
      · have f1 : decide (p < 0) = false := decide_eq_false g1
        by_cases g2 : 33000000 < p
        · go_wp2_with fail
          go_quiet (fail)
          go_wp2
          go_ret
          exact ⟨⟨_, rfl, fun h => by cases h⟩, HX.out.drewN _⟩
        · have f2 : decide (33000000 < p) = false := decide_eq_false g2
          by_cases g3 : 33000000 < q
          · go_wp2_with fail
            go_quiet (fail)
            go_wp2
            go_ret
            exact ⟨⟨_, rfl, fun h => by cases h⟩, HX.out.drewN _⟩
          · have f3 : decide (33000000 < q) = false := decide_eq_false g3
            obtain ⟨z, hz⟩ : ∃ z, IntKind.i64.wrap (q - p) = z := ⟨_, rfl⟩
            have g0 : Hid ((0 ≤ p ∧ p ≤ 33000000) ∧ q ≤ 33000000) := ⟨⟨by omega, by omega⟩, by omega⟩
            clear g1 g2 g3
            by_cases g4 : 864000 < z
            · have f4 : decide (864000 < z) = true := decide_eq_true g4
              go_wp2_with fail
              go_quiet (fail)
              go_wp2
              go_ret
              exact ⟨⟨_, rfl, fun h => by cases h⟩, HX.out.drewN _⟩
            · have f4 : decide (864000 < z) = false := decide_eq_false g4
              go_wp2_with fail
              go_quiet (fail)
              go_wp2
              go_roundw
              case rel =>
                refine ⟨k + 1, by omega, by go_num, ?_, HX.out.drewN _, HB.out.drewN _⟩
                show ∀ x ∈ l.take (k + 1), _
                rw [take_snoc hx.out]
                intro x hm
                rcases List.mem_append.1 hm with h | h
                · exact HP.out x h
                · simp at h; subst h; exact ⟨g0.out.1.1, g0.out.1.2, g0.out.2⟩
              case measure => simp [intOf]; omega
    · obtain rfl : k = l.length := by omega
      rw [List.take_length] at HP
      have hb := HB.out
      have hi := Lib.hid (su_size hcs)
      go_wp2_with (first | (refine load_box rfl 35 _ rfl _ rfl _ _ hb _ Try.underlying35 rfl hi.out ?_))
      refine (kF.out _ HX.out).mono ?_
      rintro e w1 ⟨⟨b, rfl, hb2⟩, x1⟩
      clear hb hi
      cases b
      · clear hb2
        go_wp2
        go_ret
        exact ⟨⟨_, rfl, fun h => by cases h⟩, HX.out.trans x1⟩
      · have hp := hb2 rfl
        replace hp := Lib.hid hp
        clear hb2
        go_wp2
        go_ret
        exact ⟨⟨_, rfl, fun h => ⟨hp.out, by have := of_decide_eq_true h; omega, HP.out⟩⟩, HX.out.trans x1⟩

theorem pFew16 (s : Su) (h : Sh) {w : World} {A : Option Addr} {l : List Sp.S} (hA : Rs w A l) (hl : l.length ≤ maxLen) (c : Nat) :
    Calls Try.prog 61 #[.agg (s.cells h).toArray, .slice A l.length c] w (RetP w (Few14 s l)) :=
  few16A (s.cells h) rfl (SuFew s) l A c hl w hA (fun W _ => (pFew s h W).mono fun _ _ ⟨⟨b, he, hb⟩, x⟩ => ⟨⟨b, he, hb.1⟩, x⟩)
end Go.Proofs.Ytnhmibfgaoealaa
