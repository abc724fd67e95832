/-
  night.Of, night.Is, and few of lumperlaw14, of a setup.
-/
import Derived.Test.YtnhmibfgaoealaaNb
namespace Go.Proofs.Ytnhmibfgaoealaa
open Go.RowKit
set_option linter.unusedVariables false
set_option linter.unusedSimpArgs false

def nightS (s : Su) (l : List Sp.S) : List Sp.S := if chk s = true then nightOf s.nfrom s.nto l else []
def nightIsS (s : Su) (t : Int) : Bool := chk s && nightIs s.nfrom s.nto t
theorem chk_nt {s : Su} (h : chk s = true) : okNT s.nfrom s.nto := by
  have := chk_times h
  unfold okNT; omega

theorem pNightOf {s : Su} {h : Sh} (ok : SuOk s) (fw : SuFew s) {w : World} (r : SuR w s h) {A : Option Addr} {l : List Sp.S} (hA : Rs w A l) (hl : l.length ≤ 900000) (cap : Nat) :
    Calls Try.prog 54 #[.agg (s.cells h).toArray, .slice A l.length cap] w (RetS w (nightS s l)) := by
  unfold nightS
  cases hc : chk s
  · exact ofA_no _ _ _ _ _ _ _ _ _ _ _ _ _ _ _ _ _ _ _ _ _ s.nfrom s.nto w A l.length cap (fun W X => by have := pCheck ok fw (r.ext X); rw [hc] at this; exact this)
  · exact ofA_yes _ _ _ _ _ _ _ _ _ _ _ _ _ _ _ _ _ _ _ _ _ s.nfrom s.nto (chk_nt hc) w A l hA hl cap (fun W X => by have := pCheck ok fw (r.ext X); rw [hc] at this; exact this)
theorem pNightIs {s : Su} {h : Sh} (ok : SuOk s) (fw : SuFew s) {w : World} (r : SuR w s h) (t : Int) :
    Calls Try.prog 56 #[.agg (s.cells h).toArray, .int .i64 t] w (RetB w (nightIsS s t)) :=
  isA _ _ _ _ _ _ _ _ _ _ _ _ _ _ _ _ _ _ _ _ _ s.nfrom s.nto t _ w (fun W X => pCheck ok fw (r.ext X))

theorem su_size0 : (Try.prog.info? 35).map (·.size) = some 23 := by kernel_rfl
theorem su_size {cs : List Value} (h : cs.length = 23) : (Try.prog.info? 35).map (·.size) = some cs.toArray.size := su_size0.trans (by rw [show cs.toArray.size = 23 from by simpa using h])
/-- A Bool that is true only if p. -/
def RetP (w : World) (p : Prop) (e : Ending) (w' : World) : Prop := (∃ b : Bool, e = .returned (.bool b) ∧ (b = true → p)) ∧ Ext w w'
/-- What few of layer 14 lets through. -/
def Few14 (s : Su) (l : List Sp.S) : Prop := SuFew s ∧ l.length ≤ 30 ∧ ∀ x ∈ l, 0 ≤ x.1 ∧ x.1 ≤ 33000000 ∧ x.2 ≤ 33000000

set_option maxRecDepth 100000 in
set_option maxHeartbeats 1000000 in
theorem few14A (cs : List Value) (hcs : cs.length = 23) (p : Prop) (l : List Sp.S) (A : Option Addr) (c : Nat) (hl : l.length ≤ maxLen) (w : World) (h : Rs w A l)
    (kF : ∀ W, Ext w W → Calls Try.prog 58 #[.agg cs.toArray] W (RetP W p)) :
    Calls Try.prog 53 #[.agg cs.toArray, .slice A l.length c] w (RetP w (p ∧ l.length ≤ 30 ∧ ∀ x ∈ l, 0 ≤ x.1 ∧ x.1 ≤ 33000000 ∧ x.2 ≤ 33000000)) := by
  replace h := Lib.hid h; replace kF := Lib.hid kF
  have hl2 : l.length ≤ 9223372036854775807 := hl
  clear hl
  go_enter Try.func53, Try.ntmps53
  go_wp2_with fail
  go_loopw [5] (fun i wr => ∃ k : Nat, k ≤ l.length ∧ i = .int .i64 k ∧ Hid (∀ x ∈ l.take k, 0 ≤ x.1 ∧ x.1 ≤ 33000000 ∧ x.2 ≤ 33000000) ∧ Hid (Ext w wr) ∧ Hid (Bx wr w.heap.size cs 35)) (fun i _ => l.length - (intOf i).toNat)
  case atStart => exact ⟨0, Nat.zero_le _, rfl, (show Hid _ from fun x hx => by simp at hx), (Ext.refl w).alloc _, Bx.new w cs _⟩
  case round =>
    obtain ⟨k, hk, rfl, HP, HX, HB⟩ := hrel
    by_cases hlt : k < l.length
    · obtain ⟨b, off, p, q, rfl, hbB, hx, c0, c1⟩ := Rd.atS h.out HX.out hlt
      have q3 : (k : Int) < (l.length : Int) := by omega
      have q4 : (0 : Int) ≤ (k : Int) := by omega
      by_cases g1 : p < 0
      · go_wp2_with fail
        go_quiet (fail)
        go_wp2
        go_ret
        exact ⟨⟨_, rfl, fun h => by cases h⟩, HX.out.drewN _⟩
      · have f1 : decide (p < 0) = false := decide_eq_false g1
        by_cases g2 : 33000000 < p
        · go_wp2_with fail
          go_quiet (fail)
          go_wp2
          go_ret
          exact ⟨⟨_, rfl, fun h => by cases h⟩, HX.out.drewN _⟩
        · have f2 : decide (33000000 < p) = false := decide_eq_false g2
          by_cases g3 : 33000000 < q
          · go_wp2_with fail
            go_quiet (fail)
            go_wp2
            go_ret
            exact ⟨⟨_, rfl, fun h => by cases h⟩, HX.out.drewN _⟩
          · have f3 : decide (33000000 < q) = false := decide_eq_false g3
            obtain ⟨z, hz⟩ : ∃ z, IntKind.i64.wrap (q - p) = z := ⟨_, rfl⟩
            have g0 : Hid ((0 ≤ p ∧ p ≤ 33000000) ∧ q ≤ 33000000) := ⟨⟨by omega, by omega⟩, by omega⟩
            clear g1 g2 g3
            by_cases g4 : 2592000 < z
            · have f4 : decide (2592000 < z) = true := decide_eq_true g4
              go_wp2_with fail
              go_quiet (fail)
              go_wp2
              go_ret
              exact ⟨⟨_, rfl, fun h => by cases h⟩, HX.out.drewN _⟩
            · have f4 : decide (2592000 < z) = false := decide_eq_false g4
              go_wp2_with fail
              go_quiet (fail)
              go_wp2
              go_roundw
              case rel =>
                refine ⟨k + 1, by omega, by go_num, ?_, HX.out.drewN _, HB.out.drewN _⟩
                show ∀ x ∈ l.take (k + 1), _
                rw [take_snoc hx.out]
                intro x hm
                rcases List.mem_append.1 hm with h | h
                · exact HP.out x h
                · simp at h; subst h; exact ⟨g0.out.1.1, g0.out.1.2, g0.out.2⟩
              case measure => simp [intOf]; omega
    · obtain rfl : k = l.length := by omega
      rw [List.take_length] at HP
      have hb := HB.out
      have hi := Lib.hid (su_size hcs)
      go_wp2_with (first | (refine load_box rfl 35 _ rfl _ rfl _ _ hb _ Try.underlying35 rfl hi.out ?_))
      refine (kF.out _ HX.out).mono ?_
      rintro e w1 ⟨⟨b, rfl, hb2⟩, x1⟩
      clear hb hi
      cases b
      · clear hb2
        go_wp2
        go_ret
        exact ⟨⟨_, rfl, fun h => by cases h⟩, HX.out.trans x1⟩
      · have hp := hb2 rfl
        replace hp := Lib.hid hp
        clear hb2
        go_wp2
        go_ret
        exact ⟨⟨_, rfl, fun h => ⟨hp.out, by have := of_decide_eq_true h; omega, HP.out⟩⟩, HX.out.trans x1⟩
theorem pFew14 (s : Su) (h : Sh) {w : World} {A : Option Addr} {l : List Sp.S} (hA : Rs w A l) (hl : l.length ≤ maxLen) (c : Nat) :
    Calls Try.prog 53 #[.agg (s.cells h).toArray, .slice A l.length c] w (RetP w (Few14 s l)) :=
  few14A (s.cells h) rfl (SuFew s) l A c hl w hA (fun W _ => (pFew s h W).mono fun _ _ ⟨⟨b, he, hb⟩, x⟩ => ⟨⟨b, he, hb.1⟩, x⟩)
end Go.Proofs.Ytnhmibfgaoealaa
