/-
  slices.IndexFunc and ContainsFunc, with a function that may keep state.
-/
import Derived.Test.YtnhmibfgaoealaaCk0
import Derived.Shelf.GgClosure.Gives
import Derived.Deep.LoopGhost
namespace Go.Proofs.Ytnhmibfgaoealaa
open Go.RowKit Go.Shelf
set_option linter.unusedVariables false
set_option linter.unusedSimpArgs false

set_option maxRecDepth 100000 in
set_option maxHeartbeats 2000000 in
theorem idx_int (zs : List (Int)) (p : Nat → Bool) (g : Nat) (lb : Array Value) (eg : ∀ args w, (callFunc g args).run Try.prog w = .ok (.enter g args) w) (Inv : Nat → World → Prop) (A : Option Addr) (c : Nat) (w : World) (hz : zs.length ≤ 9223372036854775806)
    (hrow : ∀ j W, Inv j W → Rd encN 1 W W.heap.size A zs) (hstep : ∀ j W x, zs[j]? = some x → Inv j W → Calls Try.prog g (#[.int .i64 x] ++ lb) W fun e w' => e = .returned (.bool (p j)) ∧ Inv (j + 1) w') (h0 : Inv 0 w) :
    Calls Try.prog 157 #[.slice A zs.length c, .func (.func g) #[] lb] w fun e w' => (∃ r : Int, e = .returned (.int .i64 r) ∧ (-1 ≤ r ∧ r ≤ 9223372036854775806) ∧ (0 ≤ r ↔ ∃ j, j < zs.length ∧ p j = true)) ∧ ∃ j, Inv j w' := by
  have hz' : zs.length ≤ 9223372036854775806 := hz
  clear hz
  replace hrow := Lib.hid hrow; replace hstep := Lib.hid hstep; replace h0 := Lib.hid h0
  go_enter Try.func157, Try.ntmps157
  go_wp2
  go_loopg [5, 8] zs.length (fun gg _ s8 wr => ∃ kk : Nat, kk ≤ zs.length ∧ zs.length - kk ≤ gg ∧ s8 = .int .i64 kk ∧ Hid (Inv kk wr) ∧ Hid (∀ j, j < kk → p j = false))
  case atStart => exact ⟨0, Nat.zero_le _, by omega, rfl, h0, fun j hj => absurd hj (Nat.not_lt_zero _)⟩
  case round =>
    obtain ⟨kk, hkk, hg, rfl, I, NP⟩ := hrel
    by_cases hlt : kk < zs.length
    · have hltz : (kk : Int) < (zs.length : Int) := by omega
      obtain ⟨b, off, hA, hb, hc⟩ := hrow.out kk wr I.out (by rintro rfl; simp at hlt)
      obtain ⟨x, hxe⟩ : ∃ x, zs[kk] = x := ⟨_, rfl⟩
      have l0 : wr.cell? ⟨b, off + kk, none⟩ = some (.int .i64 x) := by simpa using hc kk hlt 0 _ (by rw [hxe]; rfl)
      have hcall := hstep.out kk wr x (by rw [List.getElem?_eq_getElem hlt, hxe]) I.out
      subst hA
      replace hxe := Lib.hid hxe
      clear hc
      cases hq : p kk with
      | true =>
        rw [hq] at hcall
        replace hcall := Lib.hid hcall
        go_wp2_with (go_at_fn g; refine hcall.out.mono ?_; rintro e w' ⟨rfl, hI⟩)
        go_ret
        exact ⟨⟨_, rfl, by omega, ⟨fun _ => ⟨kk, hlt, hq⟩, fun _ => by omega⟩⟩, _, hI⟩
      | false =>
        rw [hq] at hcall
        replace hcall := Lib.hid hcall
        go_wp2_with (go_at_fn g; refine hcall.out.mono ?_; rintro e w' ⟨rfl, hI⟩)
        go_roundg (zs.length - (kk + 1))
        case measure => omega
        case rel =>
          refine ⟨kk + 1, by omega, by omega, by go_num, hI, (show Hid _ from fun j hj => ?_)⟩
          by_cases e : j = kk
          · subst e; exact hq
          · exact NP.out j (by omega)
    · have hltz : ¬ (kk : Int) < (zs.length : Int) := by omega
      obtain rfl : kk = zs.length := by omega
      go_wp2
      go_ret
      refine ⟨⟨_, rfl, by omega, ⟨fun h => absurd h (by omega), fun ⟨j, hj, h⟩ => ?_⟩⟩, _, I.out⟩
      rw [NP.out j hj] at h; cases h
theorem cont_int (zs : List (Int)) (p : Nat → Bool) (g : Nat) (lb : Array Value) (eg : ∀ args w, (callFunc g args).run Try.prog w = .ok (.enter g args) w) (Inv : Nat → World → Prop) (A : Option Addr) (c : Nat) (w : World) (hz : zs.length ≤ 9223372036854775806)
    (hrow : ∀ j W, Inv j W → Rd encN 1 W W.heap.size A zs) (hstep : ∀ j W x, zs[j]? = some x → Inv j W → Calls Try.prog g (#[.int .i64 x] ++ lb) W fun e w' => e = .returned (.bool (p j)) ∧ Inv (j + 1) w') (h0 : Inv 0 w) :
    Calls Try.prog 142 #[.slice A zs.length c, .func (.func g) #[] lb] w fun e w' => (∃ b : Bool, e = .returned (.bool b) ∧ (b = true ↔ ∃ j, j < zs.length ∧ p j = true)) ∧ ∃ j, Inv j w' := by
  replace hrow := Lib.hid hrow; replace hstep := Lib.hid hstep; replace h0 := Lib.hid h0; replace eg := Lib.hid eg
  go_enter Try.func142, Try.ntmps142
  go_wp2_with fail
  refine (idx_int zs p g lb eg.out Inv A c _ hz hrow.out hstep.out h0.out).mono ?_
  rintro e w' ⟨⟨r, rfl, hr, hi⟩, hI⟩
  go_wp2
  go_ret
  exact ⟨⟨_, rfl, decide_eq_true_iff⟩, hI⟩

set_option maxRecDepth 100000 in
set_option maxHeartbeats 2000000 in
theorem idx_ratio (zs : List (Int × Int)) (p : Nat → Bool) (g : Nat) (lb : Array Value) (eg : ∀ args w, (callFunc g args).run Try.prog w = .ok (.enter g args) w) (Inv : Nat → World → Prop) (A : Option Addr) (c : Nat) (w : World) (hz : zs.length ≤ 9223372036854775806)
    (hrow : ∀ j W, Inv j W → Rd encS 2 W W.heap.size A zs) (hstep : ∀ j W x, zs[j]? = some x → Inv j W → Calls Try.prog g (#[.agg #[.int .i64 x.1, .int .i64 x.2]] ++ lb) W fun e w' => e = .returned (.bool (p j)) ∧ Inv (j + 1) w') (h0 : Inv 0 w) :
    Calls Try.prog 158 #[.slice A zs.length c, .func (.func g) #[] lb] w fun e w' => (∃ r : Int, e = .returned (.int .i64 r) ∧ (-1 ≤ r ∧ r ≤ 9223372036854775806) ∧ (0 ≤ r ↔ ∃ j, j < zs.length ∧ p j = true)) ∧ ∃ j, Inv j w' := by
  have hz' : zs.length ≤ 9223372036854775806 := hz
  clear hz
  replace hrow := Lib.hid hrow; replace hstep := Lib.hid hstep; replace h0 := Lib.hid h0
  go_enter Try.func158, Try.ntmps158
  go_wp2
  go_loopg [5, 8] zs.length (fun gg _ s8 wr => ∃ kk : Nat, kk ≤ zs.length ∧ zs.length - kk ≤ gg ∧ s8 = .int .i64 kk ∧ Hid (Inv kk wr) ∧ Hid (∀ j, j < kk → p j = false))
  case atStart => exact ⟨0, Nat.zero_le _, by omega, rfl, h0, fun j hj => absurd hj (Nat.not_lt_zero _)⟩
  case round =>
    obtain ⟨kk, hkk, hg, rfl, I, NP⟩ := hrel
    by_cases hlt : kk < zs.length
    · have hltz : (kk : Int) < (zs.length : Int) := by omega
      obtain ⟨b, off, hA, hb, hc⟩ := hrow.out kk wr I.out (by rintro rfl; simp at hlt)
      obtain ⟨x, hxe⟩ : ∃ x, zs[kk] = x := ⟨_, rfl⟩
      have l0 : wr.cell? ⟨b, off + kk * 2, none⟩ = some (.int .i64 x.1) := by simpa using hc kk hlt 0 _ (by rw [hxe]; rfl)
      have l1 : wr.cell? ⟨b, off + kk * 2 + 1, none⟩ = some (.int .i64 x.2) := by simpa using hc kk hlt 1 _ (by rw [hxe]; rfl)
      have hcall := hstep.out kk wr x (by rw [List.getElem?_eq_getElem hlt, hxe]) I.out
      subst hA
      replace hxe := Lib.hid hxe
      clear hc
      cases hq : p kk with
      | true =>
        rw [hq] at hcall
        replace hcall := Lib.hid hcall
        go_wp2_with (go_at_fn g; refine hcall.out.mono ?_; rintro e w' ⟨rfl, hI⟩)
        go_ret
        exact ⟨⟨_, rfl, by omega, ⟨fun _ => ⟨kk, hlt, hq⟩, fun _ => by omega⟩⟩, _, hI⟩
      | false =>
        rw [hq] at hcall
        replace hcall := Lib.hid hcall
        go_wp2_with (go_at_fn g; refine hcall.out.mono ?_; rintro e w' ⟨rfl, hI⟩)
        go_roundg (zs.length - (kk + 1))
        case measure => omega
        case rel =>
          refine ⟨kk + 1, by omega, by omega, by go_num, hI, (show Hid _ from fun j hj => ?_)⟩
          by_cases e : j = kk
          · subst e; exact hq
          · exact NP.out j (by omega)
    · have hltz : ¬ (kk : Int) < (zs.length : Int) := by omega
      obtain rfl : kk = zs.length := by omega
      go_wp2
      go_ret
      refine ⟨⟨_, rfl, by omega, ⟨fun h => absurd h (by omega), fun ⟨j, hj, h⟩ => ?_⟩⟩, _, I.out⟩
      rw [NP.out j hj] at h; cases h
theorem cont_ratio (zs : List (Int × Int)) (p : Nat → Bool) (g : Nat) (lb : Array Value) (eg : ∀ args w, (callFunc g args).run Try.prog w = .ok (.enter g args) w) (Inv : Nat → World → Prop) (A : Option Addr) (c : Nat) (w : World) (hz : zs.length ≤ 9223372036854775806)
    (hrow : ∀ j W, Inv j W → Rd encS 2 W W.heap.size A zs) (hstep : ∀ j W x, zs[j]? = some x → Inv j W → Calls Try.prog g (#[.agg #[.int .i64 x.1, .int .i64 x.2]] ++ lb) W fun e w' => e = .returned (.bool (p j)) ∧ Inv (j + 1) w') (h0 : Inv 0 w) :
    Calls Try.prog 145 #[.slice A zs.length c, .func (.func g) #[] lb] w fun e w' => (∃ b : Bool, e = .returned (.bool b) ∧ (b = true ↔ ∃ j, j < zs.length ∧ p j = true)) ∧ ∃ j, Inv j w' := by
  replace hrow := Lib.hid hrow; replace hstep := Lib.hid hstep; replace h0 := Lib.hid h0; replace eg := Lib.hid eg
  go_enter Try.func145, Try.ntmps145
  go_wp2_with fail
  refine (idx_ratio zs p g lb eg.out Inv A c _ hz hrow.out hstep.out h0.out).mono ?_
  rintro e w' ⟨⟨r, rfl, hr, hi⟩, hI⟩
  go_wp2
  go_ret
  exact ⟨⟨_, rfl, decide_eq_true_iff⟩, hI⟩

set_option maxRecDepth 100000 in
set_option maxHeartbeats 2000000 in
theorem idx_way (zs : List (Int × Int × Int)) (p : Nat → Bool) (g : Nat) (lb : Array Value) (eg : ∀ args w, (callFunc g args).run Try.prog w = .ok (.enter g args) w) (Inv : Nat → World → Prop) (A : Option Addr) (c : Nat) (w : World) (hz : zs.length ≤ 9223372036854775806)
    (hrow : ∀ j W, Inv j W → Rd enc3 3 W W.heap.size A zs) (hstep : ∀ j W x, zs[j]? = some x → Inv j W → Calls Try.prog g (#[.agg #[.int .i64 x.1, .int .i64 x.2.1, .int .i64 x.2.2]] ++ lb) W fun e w' => e = .returned (.bool (p j)) ∧ Inv (j + 1) w') (h0 : Inv 0 w) :
    Calls Try.prog 144 #[.slice A zs.length c, .func (.func g) #[] lb] w fun e w' => (∃ r : Int, e = .returned (.int .i64 r) ∧ (-1 ≤ r ∧ r ≤ 9223372036854775806) ∧ (0 ≤ r ↔ ∃ j, j < zs.length ∧ p j = true)) ∧ ∃ j, Inv j w' := by
  have hz' : zs.length ≤ 9223372036854775806 := hz
  clear hz
  replace hrow := Lib.hid hrow; replace hstep := Lib.hid hstep; replace h0 := Lib.hid h0
  go_enter Try.func144, Try.ntmps144
  go_wp2
  go_loopg [5, 8] zs.length (fun gg _ s8 wr => ∃ kk : Nat, kk ≤ zs.length ∧ zs.length - kk ≤ gg ∧ s8 = .int .i64 kk ∧ Hid (Inv kk wr) ∧ Hid (∀ j, j < kk → p j = false))
  case atStart => exact ⟨0, Nat.zero_le _, by omega, rfl, h0, fun j hj => absurd hj (Nat.not_lt_zero _)⟩
  case round =>
    obtain ⟨kk, hkk, hg, rfl, I, NP⟩ := hrel
    by_cases hlt : kk < zs.length
    · have hltz : (kk : Int) < (zs.length : Int) := by omega
      obtain ⟨b, off, hA, hb, hc⟩ := hrow.out kk wr I.out (by rintro rfl; simp at hlt)
      obtain ⟨x, hxe⟩ : ∃ x, zs[kk] = x := ⟨_, rfl⟩
      have l0 : wr.cell? ⟨b, off + kk * 3, none⟩ = some (.int .i64 x.1) := by simpa using hc kk hlt 0 _ (by rw [hxe]; rfl)
      have l1 : wr.cell? ⟨b, off + kk * 3 + 1, none⟩ = some (.int .i64 x.2.1) := by simpa using hc kk hlt 1 _ (by rw [hxe]; rfl)
      have l2 : wr.cell? ⟨b, off + kk * 3 + 2, none⟩ = some (.int .i64 x.2.2) := by simpa using hc kk hlt 2 _ (by rw [hxe]; rfl)
      have hcall := hstep.out kk wr x (by rw [List.getElem?_eq_getElem hlt, hxe]) I.out
      subst hA
      replace hxe := Lib.hid hxe
      clear hc
      cases hq : p kk with
      | true =>
        rw [hq] at hcall
        replace hcall := Lib.hid hcall
        go_wp2_with (go_at_fn g; refine hcall.out.mono ?_; rintro e w' ⟨rfl, hI⟩)
        go_ret
        exact ⟨⟨_, rfl, by omega, ⟨fun _ => ⟨kk, hlt, hq⟩, fun _ => by omega⟩⟩, _, hI⟩
      | false =>
        rw [hq] at hcall
        replace hcall := Lib.hid hcall
        go_wp2_with (go_at_fn g; refine hcall.out.mono ?_; rintro e w' ⟨rfl, hI⟩)
        go_roundg (zs.length - (kk + 1))
        case measure => omega
        case rel =>
          refine ⟨kk + 1, by omega, by omega, by go_num, hI, (show Hid _ from fun j hj => ?_)⟩
          by_cases e : j = kk
          · subst e; exact hq
          · exact NP.out j (by omega)
    · have hltz : ¬ (kk : Int) < (zs.length : Int) := by omega
      obtain rfl : kk = zs.length := by omega
      go_wp2
      go_ret
      refine ⟨⟨_, rfl, by omega, ⟨fun h => absurd h (by omega), fun ⟨j, hj, h⟩ => ?_⟩⟩, _, I.out⟩
      rw [NP.out j hj] at h; cases h
theorem cont_way (zs : List (Int × Int × Int)) (p : Nat → Bool) (g : Nat) (lb : Array Value) (eg : ∀ args w, (callFunc g args).run Try.prog w = .ok (.enter g args) w) (Inv : Nat → World → Prop) (A : Option Addr) (c : Nat) (w : World) (hz : zs.length ≤ 9223372036854775806)
    (hrow : ∀ j W, Inv j W → Rd enc3 3 W W.heap.size A zs) (hstep : ∀ j W x, zs[j]? = some x → Inv j W → Calls Try.prog g (#[.agg #[.int .i64 x.1, .int .i64 x.2.1, .int .i64 x.2.2]] ++ lb) W fun e w' => e = .returned (.bool (p j)) ∧ Inv (j + 1) w') (h0 : Inv 0 w) :
    Calls Try.prog 120 #[.slice A zs.length c, .func (.func g) #[] lb] w fun e w' => (∃ b : Bool, e = .returned (.bool b) ∧ (b = true ↔ ∃ j, j < zs.length ∧ p j = true)) ∧ ∃ j, Inv j w' := by
  replace hrow := Lib.hid hrow; replace hstep := Lib.hid hstep; replace h0 := Lib.hid h0; replace eg := Lib.hid eg
  go_enter Try.func120, Try.ntmps120
  go_wp2_with fail
  refine (idx_way zs p g lb eg.out Inv A c _ hz hrow.out hstep.out h0.out).mono ?_
  rintro e w' ⟨⟨r, rfl, hr, hi⟩, hI⟩
  go_wp2
  go_ret
  exact ⟨⟨_, rfl, decide_eq_true_iff⟩, hI⟩

set_option maxRecDepth 100000 in
set_option maxHeartbeats 2000000 in
theorem idx_elem (zs : List ((Int × Int) × (Int × Int))) (p : Nat → Bool) (g : Nat) (lb : Array Value) (eg : ∀ args w, (callFunc g args).run Try.prog w = .ok (.enter g args) w) (Inv : Nat → World → Prop) (A : Option Addr) (c : Nat) (w : World) (hz : zs.length ≤ 9223372036854775806)
    (hrow : ∀ j W, Inv j W → Rd enc4 4 W W.heap.size A zs) (hstep : ∀ j W x, zs[j]? = some x → Inv j W → Calls Try.prog g (#[.agg #[.int .i64 x.1.1, .int .i64 x.1.2, .int .i64 x.2.1, .int .i64 x.2.2]] ++ lb) W fun e w' => e = .returned (.bool (p j)) ∧ Inv (j + 1) w') (h0 : Inv 0 w) :
    Calls Try.prog 148 #[.slice A zs.length c, .func (.func g) #[] lb] w fun e w' => (∃ r : Int, e = .returned (.int .i64 r) ∧ (-1 ≤ r ∧ r ≤ 9223372036854775806) ∧ (0 ≤ r ↔ ∃ j, j < zs.length ∧ p j = true)) ∧ ∃ j, Inv j w' := by
  have hz' : zs.length ≤ 9223372036854775806 := hz
  clear hz
  replace hrow := Lib.hid hrow; replace hstep := Lib.hid hstep; replace h0 := Lib.hid h0
  go_enter Try.func148, Try.ntmps148
  go_wp2
  go_loopg [5, 8] zs.length (fun gg _ s8 wr => ∃ kk : Nat, kk ≤ zs.length ∧ zs.length - kk ≤ gg ∧ s8 = .int .i64 kk ∧ Hid (Inv kk wr) ∧ Hid (∀ j, j < kk → p j = false))
  case atStart => exact ⟨0, Nat.zero_le _, by omega, rfl, h0, fun j hj => absurd hj (Nat.not_lt_zero _)⟩
  case round =>
    obtain ⟨kk, hkk, hg, rfl, I, NP⟩ := hrel
    by_cases hlt : kk < zs.length
    · have hltz : (kk : Int) < (zs.length : Int) := by omega
      obtain ⟨b, off, hA, hb, hc⟩ := hrow.out kk wr I.out (by rintro rfl; simp at hlt)
      obtain ⟨x, hxe⟩ : ∃ x, zs[kk] = x := ⟨_, rfl⟩
      have l0 : wr.cell? ⟨b, off + kk * 4, none⟩ = some (.int .i64 x.1.1) := by simpa using hc kk hlt 0 _ (by rw [hxe]; rfl)
      have l1 : wr.cell? ⟨b, off + kk * 4 + 1, none⟩ = some (.int .i64 x.1.2) := by simpa using hc kk hlt 1 _ (by rw [hxe]; rfl)
      have l2 : wr.cell? ⟨b, off + kk * 4 + 2, none⟩ = some (.int .i64 x.2.1) := by simpa using hc kk hlt 2 _ (by rw [hxe]; rfl)
      have l3 : wr.cell? ⟨b, off + kk * 4 + 3, none⟩ = some (.int .i64 x.2.2) := by simpa using hc kk hlt 3 _ (by rw [hxe]; rfl)
      have hcall := hstep.out kk wr x (by rw [List.getElem?_eq_getElem hlt, hxe]) I.out
      subst hA
      replace hxe := Lib.hid hxe
      clear hc
      cases hq : p kk with
      | true =>
        rw [hq] at hcall
        replace hcall := Lib.hid hcall
        go_wp2_with (go_at_fn g; refine hcall.out.mono ?_; rintro e w' ⟨rfl, hI⟩)
        go_ret
        exact ⟨⟨_, rfl, by omega, ⟨fun _ => ⟨kk, hlt, hq⟩, fun _ => by omega⟩⟩, _, hI⟩
      | false =>
        rw [hq] at hcall
        replace hcall := Lib.hid hcall
        go_wp2_with (go_at_fn g; refine hcall.out.mono ?_; rintro e w' ⟨rfl, hI⟩)
        go_roundg (zs.length - (kk + 1))
        case measure => omega
        case rel =>
          refine ⟨kk + 1, by omega, by omega, by go_num, hI, (show Hid _ from fun j hj => ?_)⟩
          by_cases e : j = kk
          · subst e; exact hq
          · exact NP.out j (by omega)
    · have hltz : ¬ (kk : Int) < (zs.length : Int) := by omega
      obtain rfl : kk = zs.length := by omega
      go_wp2
      go_ret
      refine ⟨⟨_, rfl, by omega, ⟨fun h => absurd h (by omega), fun ⟨j, hj, h⟩ => ?_⟩⟩, _, I.out⟩
      rw [NP.out j hj] at h; cases h
theorem cont_elem (zs : List ((Int × Int) × (Int × Int))) (p : Nat → Bool) (g : Nat) (lb : Array Value) (eg : ∀ args w, (callFunc g args).run Try.prog w = .ok (.enter g args) w) (Inv : Nat → World → Prop) (A : Option Addr) (c : Nat) (w : World) (hz : zs.length ≤ 9223372036854775806)
    (hrow : ∀ j W, Inv j W → Rd enc4 4 W W.heap.size A zs) (hstep : ∀ j W x, zs[j]? = some x → Inv j W → Calls Try.prog g (#[.agg #[.int .i64 x.1.1, .int .i64 x.1.2, .int .i64 x.2.1, .int .i64 x.2.2]] ++ lb) W fun e w' => e = .returned (.bool (p j)) ∧ Inv (j + 1) w') (h0 : Inv 0 w) :
    Calls Try.prog 123 #[.slice A zs.length c, .func (.func g) #[] lb] w fun e w' => (∃ b : Bool, e = .returned (.bool b) ∧ (b = true ↔ ∃ j, j < zs.length ∧ p j = true)) ∧ ∃ j, Inv j w' := by
  replace hrow := Lib.hid hrow; replace hstep := Lib.hid hstep; replace h0 := Lib.hid h0; replace eg := Lib.hid eg
  go_enter Try.func123, Try.ntmps123
  go_wp2_with fail
  refine (idx_elem zs p g lb eg.out Inv A c _ hz hrow.out hstep.out h0.out).mono ?_
  rintro e w' ⟨⟨r, rfl, hr, hi⟩, hI⟩
  go_wp2
  go_ret
  exact ⟨⟨_, rfl, decide_eq_true_iff⟩, hI⟩

set_option maxRecDepth 100000 in
set_option maxHeartbeats 2000000 in
theorem idx_tier (zs : List (Int × Int)) (p : Nat → Bool) (g : Nat) (lb : Array Value) (eg : ∀ args w, (callFunc g args).run Try.prog w = .ok (.enter g args) w) (Inv : Nat → World → Prop) (A : Option Addr) (c : Nat) (w : World) (hz : zs.length ≤ 9223372036854775806)
    (hrow : ∀ j W, Inv j W → Rd encS 2 W W.heap.size A zs) (hstep : ∀ j W x, zs[j]? = some x → Inv j W → Calls Try.prog g (#[.agg #[.int .i64 x.1, .int .i64 x.2]] ++ lb) W fun e w' => e = .returned (.bool (p j)) ∧ Inv (j + 1) w') (h0 : Inv 0 w) :
    Calls Try.prog 149 #[.slice A zs.length c, .func (.func g) #[] lb] w fun e w' => (∃ r : Int, e = .returned (.int .i64 r) ∧ (-1 ≤ r ∧ r ≤ 9223372036854775806) ∧ (0 ≤ r ↔ ∃ j, j < zs.length ∧ p j = true)) ∧ ∃ j, Inv j w' := by
  have hz' : zs.length ≤ 9223372036854775806 := hz
  clear hz
  replace hrow := Lib.hid hrow; replace hstep := Lib.hid hstep; replace h0 := Lib.hid h0
  go_enter Try.func149, Try.ntmps149
  go_wp2
  go_loopg [5, 8] zs.length (fun gg _ s8 wr => ∃ kk : Nat, kk ≤ zs.length ∧ zs.length - kk ≤ gg ∧ s8 = .int .i64 kk ∧ Hid (Inv kk wr) ∧ Hid (∀ j, j < kk → p j = false))
  case atStart => exact ⟨0, Nat.zero_le _, by omega, rfl, h0, fun j hj => absurd hj (Nat.not_lt_zero _)⟩
  case round =>
    obtain ⟨kk, hkk, hg, rfl, I, NP⟩ := hrel
    by_cases hlt : kk < zs.length
    · have hltz : (kk : Int) < (zs.length : Int) := by omega
      obtain ⟨b, off, hA, hb, hc⟩ := hrow.out kk wr I.out (by rintro rfl; simp at hlt)
      obtain ⟨x, hxe⟩ : ∃ x, zs[kk] = x := ⟨_, rfl⟩
      have l0 : wr.cell? ⟨b, off + kk * 2, none⟩ = some (.int .i64 x.1) := by simpa using hc kk hlt 0 _ (by rw [hxe]; rfl)
      have l1 : wr.cell? ⟨b, off + kk * 2 + 1, none⟩ = some (.int .i64 x.2) := by simpa using hc kk hlt 1 _ (by rw [hxe]; rfl)
      have hcall := hstep.out kk wr x (by rw [List.getElem?_eq_getElem hlt, hxe]) I.out
      subst hA
      replace hxe := Lib.hid hxe
      clear hc
      cases hq : p kk with
      | true =>
        rw [hq] at hcall
        replace hcall := Lib.hid hcall
        go_wp2_with (go_at_fn g; refine hcall.out.mono ?_; rintro e w' ⟨rfl, hI⟩)
        go_ret
        exact ⟨⟨_, rfl, by omega, ⟨fun _ => ⟨kk, hlt, hq⟩, fun _ => by omega⟩⟩, _, hI⟩
      | false =>
        rw [hq] at hcall
        replace hcall := Lib.hid hcall
        go_wp2_with (go_at_fn g; refine hcall.out.mono ?_; rintro e w' ⟨rfl, hI⟩)
        go_roundg (zs.length - (kk + 1))
        case measure => omega
        case rel =>
          refine ⟨kk + 1, by omega, by omega, by go_num, hI, (show Hid _ from fun j hj => ?_)⟩
          by_cases e : j = kk
          · subst e; exact hq
          · exact NP.out j (by omega)
    · have hltz : ¬ (kk : Int) < (zs.length : Int) := by omega
      obtain rfl : kk = zs.length := by omega
      go_wp2
      go_ret
      refine ⟨⟨_, rfl, by omega, ⟨fun h => absurd h (by omega), fun ⟨j, hj, h⟩ => ?_⟩⟩, _, I.out⟩
      rw [NP.out j hj] at h; cases h
theorem cont_tier (zs : List (Int × Int)) (p : Nat → Bool) (g : Nat) (lb : Array Value) (eg : ∀ args w, (callFunc g args).run Try.prog w = .ok (.enter g args) w) (Inv : Nat → World → Prop) (A : Option Addr) (c : Nat) (w : World) (hz : zs.length ≤ 9223372036854775806)
    (hrow : ∀ j W, Inv j W → Rd encS 2 W W.heap.size A zs) (hstep : ∀ j W x, zs[j]? = some x → Inv j W → Calls Try.prog g (#[.agg #[.int .i64 x.1, .int .i64 x.2]] ++ lb) W fun e w' => e = .returned (.bool (p j)) ∧ Inv (j + 1) w') (h0 : Inv 0 w) :
    Calls Try.prog 125 #[.slice A zs.length c, .func (.func g) #[] lb] w fun e w' => (∃ b : Bool, e = .returned (.bool b) ∧ (b = true ↔ ∃ j, j < zs.length ∧ p j = true)) ∧ ∃ j, Inv j w' := by
  replace hrow := Lib.hid hrow; replace hstep := Lib.hid hstep; replace h0 := Lib.hid h0; replace eg := Lib.hid eg
  go_enter Try.func125, Try.ntmps125
  go_wp2_with fail
  refine (idx_tier zs p g lb eg.out Inv A c _ hz hrow.out hstep.out h0.out).mono ?_
  rintro e w' ⟨⟨r, rfl, hr, hi⟩, hI⟩
  go_wp2
  go_ret
  exact ⟨⟨_, rfl, decide_eq_true_iff⟩, hI⟩

end Go.Proofs.Ytnhmibfgaoealaa
