/-
  slices.IndexFunc and ContainsFunc, with a function that may keep state.
  Words of layers 1 and 2: the greatest divisor, and which ratios may be (not below 0).
  Words of layer 7: numbers from one to another one, ratios, ways, elements, tiers.
-/
import Derived.Test.YtnhmibfgaoealaaGreatCk0
import Derived.Shelf.GgClosure.Gives
import Derived.Deep.LoopGhost
import Derived.Test.YtnhmibfgaoealaaGreatNorm
import Derived.Test.YtnhmibfgaoealaaGreatBx
namespace Go.Proofs.YtnhmibfgaoealaaGreat
open Go.RowKit Go.Shelf
set_option linter.unusedVariables false
set_option linter.unusedSimpArgs false

set_option maxRecDepth 100000 in
set_option maxHeartbeats 2000000 in
theorem idx_int (zs : List (Int)) (p : Nat → Bool) (g : Nat) (lb : Array Value) (eg : ∀ args w, (callFunc g args).run Tryz.prog w = .ok (.enter g args) w) (Inv : Nat → World → Prop) (A : Option Addr) (c : Nat) (w : World) (hz : zs.length ≤ 9223372036854775806)
    (hrow : ∀ j W, Inv j W → Rd encN 1 W W.heap.size A zs) (hstep : ∀ j W x, zs[j]? = some x → Inv j W → Calls Tryz.prog g (#[.int .i64 x] ++ lb) W fun e w' => e = .returned (.bool (p j)) ∧ Inv (j + 1) w') (h0 : Inv 0 w) :
    Calls Tryz.prog 145 #[.slice A zs.length c, .func (.func g) #[] lb] w fun e w' => (∃ r : Int, e = .returned (.int .i64 r) ∧ (-1 ≤ r ∧ r ≤ 9223372036854775806) ∧ (0 ≤ r ↔ ∃ j, j < zs.length ∧ p j = true)) ∧ ∃ j, Inv j w' := by
  have hz' : zs.length ≤ 9223372036854775806 := hz
  clear hz
  replace hrow := Lib.hid hrow; replace hstep := Lib.hid hstep; replace h0 := Lib.hid h0
  go_enter Tryz.func145, Tryz.ntmps145
  go_wp2
  go_loopg [5, 8] zs.length (fun gg _ s8 wr => ∃ kk : Nat, kk ≤ zs.length ∧ zs.length - kk ≤ gg ∧ s8 = .int .i64 kk ∧ Hid (Inv kk wr) ∧ Hid (∀ j, j < kk → p j = false))
  case atStart => exact ⟨0, Nat.zero_le _, by omega, rfl, h0, fun j hj => absurd hj (Nat.not_lt_zero _)⟩
  case round =>
    obtain ⟨kk, hkk, hg, rfl, I, NP⟩ := hrel
    by_cases hlt : kk < zs.length
    · have hltz : (kk : Int) < (zs.length : Int) := by omega
      obtain ⟨b, off, hA, hb, hc⟩ := hrow.out kk wr I.out (by rintro rfl; simp at hlt)
      obtain ⟨x, hxe⟩ : ∃ x, zs[kk] = x := ⟨_, rfl⟩
      have l0 : wr.cell? ⟨b, off + kk, none⟩ = some (.int .i64 x) := by simpa using hc kk hlt 0 _ (by rw [hxe]; rfl)
      have hcall := hstep.out kk wr x (by rw [List.getElem?_eq_getElem hlt, hxe]) I.out
      subst hA
      replace hxe := Lib.hid hxe
      clear hc
      cases hq : p kk with
      | true =>
        rw [hq] at hcall
        replace hcall := Lib.hid hcall
        go_wp2_with (go_at_fn g; refine hcall.out.mono ?_; rintro e w' ⟨rfl, hI⟩)
        go_ret
        exact ⟨⟨_, rfl, by omega, ⟨fun _ => ⟨kk, hlt, hq⟩, fun _ => by omega⟩⟩, _, hI⟩
      | false =>
        rw [hq] at hcall
        replace hcall := Lib.hid hcall
        go_wp2_with (go_at_fn g; refine hcall.out.mono ?_; rintro e w' ⟨rfl, hI⟩)
        go_roundg (zs.length - (kk + 1))
        case measure => omega
        case rel =>
          refine ⟨kk + 1, by omega, by omega, by go_num, hI, (show Hid _ from fun j hj => ?_)⟩
          by_cases e : j = kk
          · subst e; exact hq
          · exact NP.out j (by omega)
    · have hltz : ¬ (kk : Int) < (zs.length : Int) := by omega
      obtain rfl : kk = zs.length := by omega
      go_wp2
      go_ret
      refine ⟨⟨_, rfl, by omega, ⟨fun h => absurd h (by omega), fun ⟨j, hj, h⟩ => ?_⟩⟩, _, I.out⟩
      rw [NP.out j hj] at h; cases h
theorem cont_int (zs : List (Int)) (p : Nat → Bool) (g : Nat) (lb : Array Value) (eg : ∀ args w, (callFunc g args).run Tryz.prog w = .ok (.enter g args) w) (Inv : Nat → World → Prop) (A : Option Addr) (c : Nat) (w : World) (hz : zs.length ≤ 9223372036854775806)
    (hrow : ∀ j W, Inv j W → Rd encN 1 W W.heap.size A zs) (hstep : ∀ j W x, zs[j]? = some x → Inv j W → Calls Tryz.prog g (#[.int .i64 x] ++ lb) W fun e w' => e = .returned (.bool (p j)) ∧ Inv (j + 1) w') (h0 : Inv 0 w) :
    Calls Tryz.prog 121 #[.slice A zs.length c, .func (.func g) #[] lb] w fun e w' => (∃ b : Bool, e = .returned (.bool b) ∧ (b = true ↔ ∃ j, j < zs.length ∧ p j = true)) ∧ ∃ j, Inv j w' := by
  replace hrow := Lib.hid hrow; replace hstep := Lib.hid hstep; replace h0 := Lib.hid h0; replace eg := Lib.hid eg
  go_enter Tryz.func121, Tryz.ntmps121
  go_wp2_with fail
  refine (idx_int zs p g lb eg.out Inv A c _ hz hrow.out hstep.out h0.out).mono ?_
  rintro e w' ⟨⟨r, rfl, hr, hi⟩, hI⟩
  go_wp2
  go_ret
  exact ⟨⟨_, rfl, decide_eq_true_iff⟩, hI⟩

set_option maxRecDepth 100000 in
set_option maxHeartbeats 2000000 in
theorem idx_ratio (zs : List (Int × Int)) (p : Nat → Bool) (g : Nat) (lb : Array Value) (eg : ∀ args w, (callFunc g args).run Tryz.prog w = .ok (.enter g args) w) (Inv : Nat → World → Prop) (A : Option Addr) (c : Nat) (w : World) (hz : zs.length ≤ 9223372036854775806)
    (hrow : ∀ j W, Inv j W → Rd encS 2 W W.heap.size A zs) (hstep : ∀ j W x, zs[j]? = some x → Inv j W → Calls Tryz.prog g (#[.agg #[.int .i64 x.1, .int .i64 x.2]] ++ lb) W fun e w' => e = .returned (.bool (p j)) ∧ Inv (j + 1) w') (h0 : Inv 0 w) :
    Calls Tryz.prog 146 #[.slice A zs.length c, .func (.func g) #[] lb] w fun e w' => (∃ r : Int, e = .returned (.int .i64 r) ∧ (-1 ≤ r ∧ r ≤ 9223372036854775806) ∧ (0 ≤ r ↔ ∃ j, j < zs.length ∧ p j = true)) ∧ ∃ j, Inv j w' := by
  have hz' : zs.length ≤ 9223372036854775806 := hz
  clear hz
  replace hrow := Lib.hid hrow; replace hstep := Lib.hid hstep; replace h0 := Lib.hid h0
  go_enter Tryz.func146, Tryz.ntmps146
  go_wp2
  go_loopg [5, 8] zs.length (fun gg _ s8 wr => ∃ kk : Nat, kk ≤ zs.length ∧ zs.length - kk ≤ gg ∧ s8 = .int .i64 kk ∧ Hid (Inv kk wr) ∧ Hid (∀ j, j < kk → p j = false))
  case atStart => exact ⟨0, Nat.zero_le _, by omega, rfl, h0, fun j hj => absurd hj (Nat.not_lt_zero _)⟩
  case round =>
    obtain ⟨kk, hkk, hg, rfl, I, NP⟩ := hrel
    by_cases hlt : kk < zs.length
    · have hltz : (kk : Int) < (zs.length : Int) := by omega
      obtain ⟨b, off, hA, hb, hc⟩ := hrow.out kk wr I.out (by rintro rfl; simp at hlt)
      obtain ⟨x, hxe⟩ : ∃ x, zs[kk] = x := ⟨_, rfl⟩
      have l0 : wr.cell? ⟨b, off + kk * 2, none⟩ = some (.int .i64 x.1) := by simpa using hc kk hlt 0 _ (by rw [hxe]; rfl)
      have l1 : wr.cell? ⟨b, off + kk * 2 + 1, none⟩ = some (.int .i64 x.2) := by simpa using hc kk hlt 1 _ (by rw [hxe]; rfl)
      have hcall := hstep.out kk wr x (by rw [List.getElem?_eq_getElem hlt, hxe]) I.out
      subst hA
      replace hxe := Lib.hid hxe
      clear hc
      cases hq : p kk with
      | true =>
        rw [hq] at hcall
        replace hcall := Lib.hid hcall
        go_wp2_with (go_at_fn g; refine hcall.out.mono ?_; rintro e w' ⟨rfl, hI⟩)
        go_ret
        exact ⟨⟨_, rfl, by omega, ⟨fun _ => ⟨kk, hlt, hq⟩, fun _ => by omega⟩⟩, _, hI⟩
      | false =>
        rw [hq] at hcall
        replace hcall := Lib.hid hcall
        go_wp2_with (go_at_fn g; refine hcall.out.mono ?_; rintro e w' ⟨rfl, hI⟩)
        go_roundg (zs.length - (kk + 1))
        case measure => omega
        case rel =>
          refine ⟨kk + 1, by omega, by omega, by go_num, hI, (show Hid _ from fun j hj => ?_)⟩
          by_cases e : j = kk
          · subst e; exact hq
          · exact NP.out j (by omega)
    · have hltz : ¬ (kk : Int) < (zs.length : Int) := by omega
      obtain rfl : kk = zs.length := by omega
      go_wp2
      go_ret
      refine ⟨⟨_, rfl, by omega, ⟨fun h => absurd h (by omega), fun ⟨j, hj, h⟩ => ?_⟩⟩, _, I.out⟩
      rw [NP.out j hj] at h; cases h
theorem cont_ratio (zs : List (Int × Int)) (p : Nat → Bool) (g : Nat) (lb : Array Value) (eg : ∀ args w, (callFunc g args).run Tryz.prog w = .ok (.enter g args) w) (Inv : Nat → World → Prop) (A : Option Addr) (c : Nat) (w : World) (hz : zs.length ≤ 9223372036854775806)
    (hrow : ∀ j W, Inv j W → Rd encS 2 W W.heap.size A zs) (hstep : ∀ j W x, zs[j]? = some x → Inv j W → Calls Tryz.prog g (#[.agg #[.int .i64 x.1, .int .i64 x.2]] ++ lb) W fun e w' => e = .returned (.bool (p j)) ∧ Inv (j + 1) w') (h0 : Inv 0 w) :
    Calls Tryz.prog 124 #[.slice A zs.length c, .func (.func g) #[] lb] w fun e w' => (∃ b : Bool, e = .returned (.bool b) ∧ (b = true ↔ ∃ j, j < zs.length ∧ p j = true)) ∧ ∃ j, Inv j w' := by
  replace hrow := Lib.hid hrow; replace hstep := Lib.hid hstep; replace h0 := Lib.hid h0; replace eg := Lib.hid eg
  go_enter Tryz.func124, Tryz.ntmps124
  go_wp2_with fail
  refine (idx_ratio zs p g lb eg.out Inv A c _ hz hrow.out hstep.out h0.out).mono ?_
  rintro e w' ⟨⟨r, rfl, hr, hi⟩, hI⟩
  go_wp2
  go_ret
  exact ⟨⟨_, rfl, decide_eq_true_iff⟩, hI⟩

set_option maxRecDepth 100000 in
set_option maxHeartbeats 2000000 in
theorem idx_way (zs : List (Int × Int × Int)) (p : Nat → Bool) (g : Nat) (lb : Array Value) (eg : ∀ args w, (callFunc g args).run Tryz.prog w = .ok (.enter g args) w) (Inv : Nat → World → Prop) (A : Option Addr) (c : Nat) (w : World) (hz : zs.length ≤ 9223372036854775806)
    (hrow : ∀ j W, Inv j W → Rd enc3 3 W W.heap.size A zs) (hstep : ∀ j W x, zs[j]? = some x → Inv j W → Calls Tryz.prog g (#[.agg #[.int .i64 x.1, .int .i64 x.2.1, .int .i64 x.2.2]] ++ lb) W fun e w' => e = .returned (.bool (p j)) ∧ Inv (j + 1) w') (h0 : Inv 0 w) :
    Calls Tryz.prog 123 #[.slice A zs.length c, .func (.func g) #[] lb] w fun e w' => (∃ r : Int, e = .returned (.int .i64 r) ∧ (-1 ≤ r ∧ r ≤ 9223372036854775806) ∧ (0 ≤ r ↔ ∃ j, j < zs.length ∧ p j = true)) ∧ ∃ j, Inv j w' := by
  have hz' : zs.length ≤ 9223372036854775806 := hz
  clear hz
  replace hrow := Lib.hid hrow; replace hstep := Lib.hid hstep; replace h0 := Lib.hid h0
  go_enter Tryz.func123, Tryz.ntmps123
  go_wp2
  go_loopg [5, 8] zs.length (fun gg _ s8 wr => ∃ kk : Nat, kk ≤ zs.length ∧ zs.length - kk ≤ gg ∧ s8 = .int .i64 kk ∧ Hid (Inv kk wr) ∧ Hid (∀ j, j < kk → p j = false))
  case atStart => exact ⟨0, Nat.zero_le _, by omega, rfl, h0, fun j hj => absurd hj (Nat.not_lt_zero _)⟩
  case round =>
    obtain ⟨kk, hkk, hg, rfl, I, NP⟩ := hrel
    by_cases hlt : kk < zs.length
    · have hltz : (kk : Int) < (zs.length : Int) := by omega
      obtain ⟨b, off, hA, hb, hc⟩ := hrow.out kk wr I.out (by rintro rfl; simp at hlt)
      obtain ⟨x, hxe⟩ : ∃ x, zs[kk] = x := ⟨_, rfl⟩
      have l0 : wr.cell? ⟨b, off + kk * 3, none⟩ = some (.int .i64 x.1) := by simpa using hc kk hlt 0 _ (by rw [hxe]; rfl)
      have l1 : wr.cell? ⟨b, off + kk * 3 + 1, none⟩ = some (.int .i64 x.2.1) := by simpa using hc kk hlt 1 _ (by rw [hxe]; rfl)
      have l2 : wr.cell? ⟨b, off + kk * 3 + 2, none⟩ = some (.int .i64 x.2.2) := by simpa using hc kk hlt 2 _ (by rw [hxe]; rfl)
      have hcall := hstep.out kk wr x (by rw [List.getElem?_eq_getElem hlt, hxe]) I.out
      subst hA
      replace hxe := Lib.hid hxe
      clear hc
      cases hq : p kk with
      | true =>
        rw [hq] at hcall
        replace hcall := Lib.hid hcall
        go_wp2_with (go_at_fn g; refine hcall.out.mono ?_; rintro e w' ⟨rfl, hI⟩)
        go_ret
        exact ⟨⟨_, rfl, by omega, ⟨fun _ => ⟨kk, hlt, hq⟩, fun _ => by omega⟩⟩, _, hI⟩
      | false =>
        rw [hq] at hcall
        replace hcall := Lib.hid hcall
        go_wp2_with (go_at_fn g; refine hcall.out.mono ?_; rintro e w' ⟨rfl, hI⟩)
        go_roundg (zs.length - (kk + 1))
        case measure => omega
        case rel =>
          refine ⟨kk + 1, by omega, by omega, by go_num, hI, (show Hid _ from fun j hj => ?_)⟩
          by_cases e : j = kk
          · subst e; exact hq
          · exact NP.out j (by omega)
    · have hltz : ¬ (kk : Int) < (zs.length : Int) := by omega
      obtain rfl : kk = zs.length := by omega
      go_wp2
      go_ret
      refine ⟨⟨_, rfl, by omega, ⟨fun h => absurd h (by omega), fun ⟨j, hj, h⟩ => ?_⟩⟩, _, I.out⟩
      rw [NP.out j hj] at h; cases h
theorem cont_way (zs : List (Int × Int × Int)) (p : Nat → Bool) (g : Nat) (lb : Array Value) (eg : ∀ args w, (callFunc g args).run Tryz.prog w = .ok (.enter g args) w) (Inv : Nat → World → Prop) (A : Option Addr) (c : Nat) (w : World) (hz : zs.length ≤ 9223372036854775806)
    (hrow : ∀ j W, Inv j W → Rd enc3 3 W W.heap.size A zs) (hstep : ∀ j W x, zs[j]? = some x → Inv j W → Calls Tryz.prog g (#[.agg #[.int .i64 x.1, .int .i64 x.2.1, .int .i64 x.2.2]] ++ lb) W fun e w' => e = .returned (.bool (p j)) ∧ Inv (j + 1) w') (h0 : Inv 0 w) :
    Calls Tryz.prog 93 #[.slice A zs.length c, .func (.func g) #[] lb] w fun e w' => (∃ b : Bool, e = .returned (.bool b) ∧ (b = true ↔ ∃ j, j < zs.length ∧ p j = true)) ∧ ∃ j, Inv j w' := by
  replace hrow := Lib.hid hrow; replace hstep := Lib.hid hstep; replace h0 := Lib.hid h0; replace eg := Lib.hid eg
  go_enter Tryz.func93, Tryz.ntmps93
  go_wp2_with fail
  refine (idx_way zs p g lb eg.out Inv A c _ hz hrow.out hstep.out h0.out).mono ?_
  rintro e w' ⟨⟨r, rfl, hr, hi⟩, hI⟩
  go_wp2
  go_ret
  exact ⟨⟨_, rfl, decide_eq_true_iff⟩, hI⟩

set_option maxRecDepth 100000 in
set_option maxHeartbeats 2000000 in
theorem idx_elem (zs : List ((Int × Int) × (Int × Int))) (p : Nat → Bool) (g : Nat) (lb : Array Value) (eg : ∀ args w, (callFunc g args).run Tryz.prog w = .ok (.enter g args) w) (Inv : Nat → World → Prop) (A : Option Addr) (c : Nat) (w : World) (hz : zs.length ≤ 9223372036854775806)
    (hrow : ∀ j W, Inv j W → Rd enc4 4 W W.heap.size A zs) (hstep : ∀ j W x, zs[j]? = some x → Inv j W → Calls Tryz.prog g (#[.agg #[.int .i64 x.1.1, .int .i64 x.1.2, .int .i64 x.2.1, .int .i64 x.2.2]] ++ lb) W fun e w' => e = .returned (.bool (p j)) ∧ Inv (j + 1) w') (h0 : Inv 0 w) :
    Calls Tryz.prog 127 #[.slice A zs.length c, .func (.func g) #[] lb] w fun e w' => (∃ r : Int, e = .returned (.int .i64 r) ∧ (-1 ≤ r ∧ r ≤ 9223372036854775806) ∧ (0 ≤ r ↔ ∃ j, j < zs.length ∧ p j = true)) ∧ ∃ j, Inv j w' := by
  have hz' : zs.length ≤ 9223372036854775806 := hz
  clear hz
  replace hrow := Lib.hid hrow; replace hstep := Lib.hid hstep; replace h0 := Lib.hid h0
  go_enter Tryz.func127, Tryz.ntmps127
  go_wp2
  go_loopg [5, 8] zs.length (fun gg _ s8 wr => ∃ kk : Nat, kk ≤ zs.length ∧ zs.length - kk ≤ gg ∧ s8 = .int .i64 kk ∧ Hid (Inv kk wr) ∧ Hid (∀ j, j < kk → p j = false))
  case atStart => exact ⟨0, Nat.zero_le _, by omega, rfl, h0, fun j hj => absurd hj (Nat.not_lt_zero _)⟩
  case round =>
    obtain ⟨kk, hkk, hg, rfl, I, NP⟩ := hrel
    by_cases hlt : kk < zs.length
    · have hltz : (kk : Int) < (zs.length : Int) := by omega
      obtain ⟨b, off, hA, hb, hc⟩ := hrow.out kk wr I.out (by rintro rfl; simp at hlt)
      obtain ⟨x, hxe⟩ : ∃ x, zs[kk] = x := ⟨_, rfl⟩
      have l0 : wr.cell? ⟨b, off + kk * 4, none⟩ = some (.int .i64 x.1.1) := by simpa using hc kk hlt 0 _ (by rw [hxe]; rfl)
      have l1 : wr.cell? ⟨b, off + kk * 4 + 1, none⟩ = some (.int .i64 x.1.2) := by simpa using hc kk hlt 1 _ (by rw [hxe]; rfl)
      have l2 : wr.cell? ⟨b, off + kk * 4 + 2, none⟩ = some (.int .i64 x.2.1) := by simpa using hc kk hlt 2 _ (by rw [hxe]; rfl)
      have l3 : wr.cell? ⟨b, off + kk * 4 + 3, none⟩ = some (.int .i64 x.2.2) := by simpa using hc kk hlt 3 _ (by rw [hxe]; rfl)
      have hcall := hstep.out kk wr x (by rw [List.getElem?_eq_getElem hlt, hxe]) I.out
      subst hA
      replace hxe := Lib.hid hxe
      clear hc
      cases hq : p kk with
      | true =>
        rw [hq] at hcall
        replace hcall := Lib.hid hcall
        go_wp2_with (go_at_fn g; refine hcall.out.mono ?_; rintro e w' ⟨rfl, hI⟩)
        go_ret
        exact ⟨⟨_, rfl, by omega, ⟨fun _ => ⟨kk, hlt, hq⟩, fun _ => by omega⟩⟩, _, hI⟩
      | false =>
        rw [hq] at hcall
        replace hcall := Lib.hid hcall
        go_wp2_with (go_at_fn g; refine hcall.out.mono ?_; rintro e w' ⟨rfl, hI⟩)
        go_roundg (zs.length - (kk + 1))
        case measure => omega
        case rel =>
          refine ⟨kk + 1, by omega, by omega, by go_num, hI, (show Hid _ from fun j hj => ?_)⟩
          by_cases e : j = kk
          · subst e; exact hq
          · exact NP.out j (by omega)
    · have hltz : ¬ (kk : Int) < (zs.length : Int) := by omega
      obtain rfl : kk = zs.length := by omega
      go_wp2
      go_ret
      refine ⟨⟨_, rfl, by omega, ⟨fun h => absurd h (by omega), fun ⟨j, hj, h⟩ => ?_⟩⟩, _, I.out⟩
      rw [NP.out j hj] at h; cases h
theorem cont_elem (zs : List ((Int × Int) × (Int × Int))) (p : Nat → Bool) (g : Nat) (lb : Array Value) (eg : ∀ args w, (callFunc g args).run Tryz.prog w = .ok (.enter g args) w) (Inv : Nat → World → Prop) (A : Option Addr) (c : Nat) (w : World) (hz : zs.length ≤ 9223372036854775806)
    (hrow : ∀ j W, Inv j W → Rd enc4 4 W W.heap.size A zs) (hstep : ∀ j W x, zs[j]? = some x → Inv j W → Calls Tryz.prog g (#[.agg #[.int .i64 x.1.1, .int .i64 x.1.2, .int .i64 x.2.1, .int .i64 x.2.2]] ++ lb) W fun e w' => e = .returned (.bool (p j)) ∧ Inv (j + 1) w') (h0 : Inv 0 w) :
    Calls Tryz.prog 96 #[.slice A zs.length c, .func (.func g) #[] lb] w fun e w' => (∃ b : Bool, e = .returned (.bool b) ∧ (b = true ↔ ∃ j, j < zs.length ∧ p j = true)) ∧ ∃ j, Inv j w' := by
  replace hrow := Lib.hid hrow; replace hstep := Lib.hid hstep; replace h0 := Lib.hid h0; replace eg := Lib.hid eg
  go_enter Tryz.func96, Tryz.ntmps96
  go_wp2_with fail
  refine (idx_elem zs p g lb eg.out Inv A c _ hz hrow.out hstep.out h0.out).mono ?_
  rintro e w' ⟨⟨r, rfl, hr, hi⟩, hI⟩
  go_wp2
  go_ret
  exact ⟨⟨_, rfl, decide_eq_true_iff⟩, hI⟩

set_option maxRecDepth 100000 in
set_option maxHeartbeats 2000000 in
theorem idx_tier (zs : List (Int × Int)) (p : Nat → Bool) (g : Nat) (lb : Array Value) (eg : ∀ args w, (callFunc g args).run Tryz.prog w = .ok (.enter g args) w) (Inv : Nat → World → Prop) (A : Option Addr) (c : Nat) (w : World) (hz : zs.length ≤ 9223372036854775806)
    (hrow : ∀ j W, Inv j W → Rd encS 2 W W.heap.size A zs) (hstep : ∀ j W x, zs[j]? = some x → Inv j W → Calls Tryz.prog g (#[.agg #[.int .i64 x.1, .int .i64 x.2]] ++ lb) W fun e w' => e = .returned (.bool (p j)) ∧ Inv (j + 1) w') (h0 : Inv 0 w) :
    Calls Tryz.prog 128 #[.slice A zs.length c, .func (.func g) #[] lb] w fun e w' => (∃ r : Int, e = .returned (.int .i64 r) ∧ (-1 ≤ r ∧ r ≤ 9223372036854775806) ∧ (0 ≤ r ↔ ∃ j, j < zs.length ∧ p j = true)) ∧ ∃ j, Inv j w' := by
  have hz' : zs.length ≤ 9223372036854775806 := hz
  clear hz
  replace hrow := Lib.hid hrow; replace hstep := Lib.hid hstep; replace h0 := Lib.hid h0
  go_enter Tryz.func128, Tryz.ntmps128
  go_wp2
  go_loopg [5, 8] zs.length (fun gg _ s8 wr => ∃ kk : Nat, kk ≤ zs.length ∧ zs.length - kk ≤ gg ∧ s8 = .int .i64 kk ∧ Hid (Inv kk wr) ∧ Hid (∀ j, j < kk → p j = false))
  case atStart => exact ⟨0, Nat.zero_le _, by omega, rfl, h0, fun j hj => absurd hj (Nat.not_lt_zero _)⟩
  case round =>
    obtain ⟨kk, hkk, hg, rfl, I, NP⟩ := hrel
    by_cases hlt : kk < zs.length
    · have hltz : (kk : Int) < (zs.length : Int) := by omega
      obtain ⟨b, off, hA, hb, hc⟩ := hrow.out kk wr I.out (by rintro rfl; simp at hlt)
      obtain ⟨x, hxe⟩ : ∃ x, zs[kk] = x := ⟨_, rfl⟩
      have l0 : wr.cell? ⟨b, off + kk * 2, none⟩ = some (.int .i64 x.1) := by simpa using hc kk hlt 0 _ (by rw [hxe]; rfl)
      have l1 : wr.cell? ⟨b, off + kk * 2 + 1, none⟩ = some (.int .i64 x.2) := by simpa using hc kk hlt 1 _ (by rw [hxe]; rfl)
      have hcall := hstep.out kk wr x (by rw [List.getElem?_eq_getElem hlt, hxe]) I.out
      subst hA
      replace hxe := Lib.hid hxe
      clear hc
      cases hq : p kk with
      | true =>
        rw [hq] at hcall
        replace hcall := Lib.hid hcall
        go_wp2_with (go_at_fn g; refine hcall.out.mono ?_; rintro e w' ⟨rfl, hI⟩)
        go_ret
        exact ⟨⟨_, rfl, by omega, ⟨fun _ => ⟨kk, hlt, hq⟩, fun _ => by omega⟩⟩, _, hI⟩
      | false =>
        rw [hq] at hcall
        replace hcall := Lib.hid hcall
        go_wp2_with (go_at_fn g; refine hcall.out.mono ?_; rintro e w' ⟨rfl, hI⟩)
        go_roundg (zs.length - (kk + 1))
        case measure => omega
        case rel =>
          refine ⟨kk + 1, by omega, by omega, by go_num, hI, (show Hid _ from fun j hj => ?_)⟩
          by_cases e : j = kk
          · subst e; exact hq
          · exact NP.out j (by omega)
    · have hltz : ¬ (kk : Int) < (zs.length : Int) := by omega
      obtain rfl : kk = zs.length := by omega
      go_wp2
      go_ret
      refine ⟨⟨_, rfl, by omega, ⟨fun h => absurd h (by omega), fun ⟨j, hj, h⟩ => ?_⟩⟩, _, I.out⟩
      rw [NP.out j hj] at h; cases h
theorem cont_tier (zs : List (Int × Int)) (p : Nat → Bool) (g : Nat) (lb : Array Value) (eg : ∀ args w, (callFunc g args).run Tryz.prog w = .ok (.enter g args) w) (Inv : Nat → World → Prop) (A : Option Addr) (c : Nat) (w : World) (hz : zs.length ≤ 9223372036854775806)
    (hrow : ∀ j W, Inv j W → Rd encS 2 W W.heap.size A zs) (hstep : ∀ j W x, zs[j]? = some x → Inv j W → Calls Tryz.prog g (#[.agg #[.int .i64 x.1, .int .i64 x.2]] ++ lb) W fun e w' => e = .returned (.bool (p j)) ∧ Inv (j + 1) w') (h0 : Inv 0 w) :
    Calls Tryz.prog 98 #[.slice A zs.length c, .func (.func g) #[] lb] w fun e w' => (∃ b : Bool, e = .returned (.bool b) ∧ (b = true ↔ ∃ j, j < zs.length ∧ p j = true)) ∧ ∃ j, Inv j w' := by
  replace hrow := Lib.hid hrow; replace hstep := Lib.hid hstep; replace h0 := Lib.hid h0; replace eg := Lib.hid eg
  go_enter Tryz.func98, Tryz.ntmps98
  go_wp2_with fail
  refine (idx_tier zs p g lb eg.out Inv A c _ hz hrow.out hstep.out h0.out).mono ?_
  rintro e w' ⟨⟨r, rfl, hr, hi⟩, hI⟩
  go_wp2
  go_ret
  exact ⟨⟨_, rfl, decide_eq_true_iff⟩, hI⟩

end Go.Proofs.YtnhmibfgaoealaaGreat
namespace Go.Proofs.YtnhmibfgaoealaaGreat
open Go.RowKit
set_option linter.unusedVariables false
set_option linter.unusedSimpArgs false

theorem pSide (a : Int) (h0 : 0 ≤ a) (w : World) : Calls Tryz.prog 155 #[.int .i64 a] w (RetI w a) := by
  have f1 : (a == -9223372036854775808) = false := beq_false_of_ne (by omega)
  have f2 : decide (a < 0) = false := decide_eq_false (by omega)
  go_enter Tryz.func155, Tryz.ntmps155
  go_wp2
  go_ret
  exact ⟨rfl, Ext.refl _⟩

set_option maxRecDepth 100000 in
theorem pGcd (a b : Int) (a0 : 0 ≤ a) (a1 : a ≤ 9223372036854775807) (b0 : 0 ≤ b) (b1 : b ≤ 9223372036854775807) (w : World) : Calls Tryz.prog 153 #[.int .i64 a, .int .i64 b] w (RetI w ((Nat.gcd a.toNat b.toNat : Nat) : Int)) := by
  obtain ⟨G, hG⟩ : ∃ G, Nat.gcd a.toNat b.toNat = G := ⟨_, rfl⟩
  rw [hG]
  replace hG := Lib.hid hG
  go_enter Tryz.func153, Tryz.ntmps153
  go_wp2_with fail
  refine (pSide a a0 _).mono ?_
  rintro e w1 ⟨rfl, x1⟩
  go_wp2_with fail
  refine (pSide b b0 _).mono ?_
  rintro e w2 ⟨rfl, x2⟩
  have X := x1.trans x2
  go_wp2_with fail
  go_loopw [0, 1] (fun u v wr => ∃ x y : Int, (0 ≤ x ∧ x ≤ 9223372036854775807) ∧ (0 ≤ y ∧ y ≤ 9223372036854775807) ∧ u = .int .i64 x ∧ v = .int .i64 y ∧ Hid (Nat.gcd x.toNat y.toNat = G) ∧ Hid (Ext w wr)) (fun _ v _ => (intOf v).toNat)
  case atStart => exact ⟨a, b, ⟨a0, a1⟩, ⟨b0, b1⟩, rfl, rfl, hG, X⟩
  case round =>
    obtain ⟨x, y, ⟨x0, x1⟩, ⟨y0, y1⟩, rfl, rfl, HG, HX⟩ := hrel
    clear hG X
    by_cases hy : 0 < y
    · have f1 : (y == 0) = false := beq_false_of_ne (by omega)
      have r0 : 0 ≤ x % y := Int.emod_nonneg _ (by omega)
      have r1 : x % y < y := Int.emod_lt_of_pos _ hy
      have q : x.tmod y = x % y := Int.tmod_eq_emod_of_nonneg x0
      have g1 : Hid (Nat.gcd y.toNat (x % y).toNat = G) := by show _ = _; rw [Int.toNat_emod x0 y0, gcd_step]; exact HG.out
      go_wp2_with fail
      go_quiet (fail)
      go_wp2
      go_roundw
      case rel => exact ⟨y, x % y, ⟨y0, y1⟩, ⟨r0, by omega⟩, rfl, by rw [← q], g1, HX.out.drewN _⟩
      case measure => simp [intOf]; omega
    · obtain rfl : y = 0 := by omega
      have g1 : Hid (x = (G : Int)) := by
        have := HG.out
        simp at this
        show _ = _
        omega
      go_wp2
      go_ret
      exact ⟨by rw [g1.out]; rfl, HX.out⟩

theorem Ext.two {w w' : World} (h : Ext w w') (u v : Value) : Ext w ((w'.setCell ⟨w.heap.size, 0, none⟩ u).setCell ⟨w.heap.size, 1, none⟩ v) :=
  Below.setCell (p := ⟨w.heap.size, 1, none⟩) (Below.setCell (p := ⟨w.heap.size, 0, none⟩) h (Nat.le_refl _) u) (Nat.le_refl _) v
theorem results_ratio {fn : Func} {p q : Tmp} (h : fn.results = #[.cell p 24, .tmp q]) (tmps : Array Value) (w : World) (g : Nat) (a b : Value)
    (hp : tmps.getD p undef = .pointer (some ⟨g, 0, none⟩)) (ha : w.cell? ⟨g, 0, none⟩ = some a) (hb : w.cell? ⟨g, 1, none⟩ = some b) : (results fn tmps).run Tryz.prog w = .ok (.tuple #[.agg #[a, b], tmps.getD q undef]) w := by
  have hp' : tmps[p]?.getD undef = .pointer (some ⟨g, 0, none⟩) := by simpa using hp
  have u := Tryz.underlying24
  simp [results, h, hp', asAddr]
  go_simp

/-- The numbers of a ratio that is made. -/
def RetMake (w : World) (n d e : Int) (x : Ending) (w' : World) : Prop := x = .returned (.tuple #[.agg #[.int .i64 n, .int .i64 d], .int .i64 e]) ∧ Ext w w'

theorem results_ratio1 {fn : Func} {p : Tmp} (h : fn.results = #[.cell p 24]) (tmps : Array Value) (w : World) (g : Nat) (a b : Value)
    (hp : tmps.getD p undef = .pointer (some ⟨g, 0, none⟩)) (ha : w.cell? ⟨g, 0, none⟩ = some a) (hb : w.cell? ⟨g, 1, none⟩ = some b) : (results fn tmps).run Tryz.prog w = .ok (.agg #[a, b]) w := by
  have hp' : tmps[p]?.getD undef = .pointer (some ⟨g, 0, none⟩) := by simpa using hp
  have u := Tryz.underlying24
  simp [results, h, hp', asAddr]
  go_simp

theorem pZero (w : World) : Calls Tryz.prog 152 #[] w fun e w' => e = .returned (.agg #[.int .i64 0, .int .i64 1]) ∧ Ext w w' := by
  go_enter Tryz.func152, Tryz.ntmps152
  go_wp2
  refine bodyPost_ret (results_ratio1 rfl _ _ w.heap.size (.int .i64 0) (.int .i64 1) rfl (by go_simp) (by go_simp)) rfl ⟨rfl, ?_⟩
  exact (Ext.refl _).alloc _

def mk2s (n d : Int) : Int × Int × Int :=
  if d ≤ 0 then (0, 0, 20) else if n = 0 then (0, 1, 0) else if 2147483647 < n / (Nat.gcd n.toNat d.toNat : Nat) ∨ 2147483647 < d / (Nat.gcd n.toNat d.toNat : Nat) then (0, 0, 10) else (n / (Nat.gcd n.toNat d.toNat : Nat), d / (Nat.gcd n.toNat d.toNat : Nat), 0)

theorem mk2s_ok (n d : Int) (n0 : 0 ≤ n) : okShare (n, d) = (decide ((mk2s n d).2.2 = 0) && decide ((mk2s n d).1 = n ∧ (mk2s n d).2.1 = d)) := by
  rw [Bool.eq_iff_iff, Bool.and_eq_true, decide_eq_true_iff, decide_eq_true_iff]
  unfold okShare
  rw [decide_eq_true_iff]
  show (0 ≤ n ∧ n ≤ 2147483647 ∧ 1 ≤ d ∧ d ≤ 2147483647 ∧ Nat.gcd n.toNat d.toNat = 1) ↔ _
  unfold mk2s
  by_cases hd : d ≤ 0
  · rw [if_pos hd]; simp; omega
  · rw [if_neg hd]
    by_cases hn : n = 0
    · subst hn
      rw [if_pos rfl, show Nat.gcd (0 : Int).toNat d.toNat = d.toNat from Nat.gcd_zero_left _]
      show _ ↔ (0 : Int) = 0 ∧ (0 : Int) = 0 ∧ 1 = d
      omega
    · rw [if_neg hn]
      have g0 : 0 < Nat.gcd n.toNat d.toNat := Nat.gcd_pos_of_pos_left _ (by omega)
      generalize Nat.gcd n.toNat d.toNat = G at g0 ⊢
      have l1 : n / (G : Int) ≤ n := Int.ediv_le_self _ n0
      have l2 : d / (G : Int) ≤ d := Int.ediv_le_self _ (by omega)
      by_cases hG1 : G = 1
      · subst hG1
        rw [show ((1 : Nat) : Int) = 1 from rfl, Int.ediv_one, Int.ediv_one]
        split
        · simp; omega
        · simp; omega
      · have : ¬ n / (G : Int) = n := fun h => by
          have h2 : n * 1 < n * (G : Int) := Int.mul_lt_mul_of_pos_left (by omega) (by omega)
          have h3 := Int.mul_ediv_self_le (x := n) (k := (G : Int)) (by omega)
          rw [h] at h3
          have h4 : (G : Int) * n = n * G := Int.mul_comm _ _
          omega
        split
        · simp [hG1]
        · simp [hG1, this]

set_option maxRecDepth 100000 in
theorem pMake (n d : Int) (n0 : 0 ≤ n) (n1 : n ≤ 9223372036854775807) (d1 : d ≤ 9223372036854775807) (w : World) : Calls Tryz.prog 147 #[.int .i64 n, .int .i64 d] w (RetMake w (mk2s n d).1 (mk2s n d).2.1 (mk2s n d).2.2) := by
  by_cases hd : d ≤ 0
  · have e : mk2s n d = (0, 0, 20) := if_pos hd
    rw [e]
    go_enter Tryz.func147, Tryz.ntmps147
    go_wp2
    refine bodyPost_ret (results_ratio rfl _ _ w.heap.size (.int .i64 0) (.int .i64 0) rfl (by go_simp) (by go_simp)) rfl ⟨rfl, ?_⟩
    exact (Ext.refl _).alloc _
  · have f1 : decide (d ≤ 0) = false := decide_eq_false (by omega)
    by_cases hn : n = 0
    · subst hn
      have e : mk2s 0 d = (0, 1, 0) := (if_neg hd).trans (if_pos rfl)
      rw [e]
      go_enter Tryz.func147, Tryz.ntmps147
      go_wp2_with fail
      refine (pZero _).mono ?_
      rintro e w1 ⟨rfl, x1⟩
      have hb := (Bx.new w [.int .i64 0, .int .i64 0] 24).ext x1
      have c0 := hb.cell 0 _ rfl
      have c1 := hb.cell 1 _ rfl
      have z0 := hb.frozen 0
      have z1 := hb.frozen 1
      go_wp2
      refine bodyPost_ret (results_ratio rfl _ _ w.heap.size (.int .i64 0) (.int .i64 1) rfl (by go_simp) (by go_simp)) rfl ⟨rfl, ?_⟩
      exact Ext.two (((Ext.refl _).alloc _).trans x1) _ _
    · have f2 : (n == 0) = false := beq_false_of_ne hn
      have hG := fun w => pGcd n d n0 n1 (by omega) d1 w
      have g0 : 0 < Nat.gcd n.toNat d.toNat := Nat.gcd_pos_of_pos_left _ (by omega)
      have e : mk2s n d = if 2147483647 < n / (Nat.gcd n.toNat d.toNat : Nat) ∨ 2147483647 < d / (Nat.gcd n.toNat d.toNat : Nat) then (0, 0, 10) else (n / (Nat.gcd n.toNat d.toNat : Nat), d / (Nat.gcd n.toNat d.toNat : Nat), 0) := (if_neg hd).trans (if_neg hn)
      rw [e]
      generalize Nat.gcd n.toNat d.toNat = G at hG g0 ⊢
      have f3 : ((G : Int) == 0) = false := beq_false_of_ne (by omega)
      have q1 : n.tdiv (G : Int) = n / (G : Int) := Int.tdiv_eq_ediv_of_nonneg n0
      have q2 : d.tdiv (G : Int) = d / (G : Int) := Int.tdiv_eq_ediv_of_nonneg (by omega)
      have l1 : n / (G : Int) ≤ n := Int.ediv_le_self _ n0
      have l2 : d / (G : Int) ≤ d := Int.ediv_le_self _ (by omega)
      have l3 : 0 ≤ n / (G : Int) := Int.ediv_nonneg n0 (by omega)
      have l4 : 0 ≤ d / (G : Int) := Int.ediv_nonneg (by omega) (by omega)
      generalize n / (G : Int) = a at q1 l1 l3 ⊢
      generalize d / (G : Int) = b at q2 l2 l4 ⊢
      replace hG := Lib.hid hG
      by_cases ha : 2147483647 < a
      · rw [if_pos (.inl ha)]
        go_enter Tryz.func147, Tryz.ntmps147
        go_wp2_with fail
        refine (hG.out _).mono ?_
        rintro e w1 ⟨rfl, x1⟩
        have hb := (Bx.new w [.int .i64 0, .int .i64 0] 24).ext x1
        have c0 := hb.cell 0 _ rfl
        have c1 := hb.cell 1 _ rfl
        have z0 := hb.frozen 0
        have z1 := hb.frozen 1
        go_wp2_with fail
        go_quiet (fail)
        go_wp2
        refine bodyPost_ret (results_ratio rfl _ _ w.heap.size (.int .i64 0) (.int .i64 0) rfl (by go_simp) (by go_simp)) rfl ⟨rfl, ?_⟩
        exact Ext.two ((((Ext.refl _).alloc _).trans x1).drewN _) _ _
      · have f4 : decide (2147483647 < a) = false := decide_eq_false ha
        have f5 : decide (a < -2147483647) = false := decide_eq_false (by omega)
        by_cases hb2 : 2147483647 < b
        · rw [if_pos (.inr hb2)]
          go_enter Tryz.func147, Tryz.ntmps147
          go_wp2_with fail
          refine (hG.out _).mono ?_
          rintro e w1 ⟨rfl, x1⟩
          have hb := (Bx.new w [.int .i64 0, .int .i64 0] 24).ext x1
          have c0 := hb.cell 0 _ rfl
          have c1 := hb.cell 1 _ rfl
          have z0 := hb.frozen 0
          have z1 := hb.frozen 1
          go_wp2_with fail
          go_quiet (fail)
          go_wp2
          refine bodyPost_ret (results_ratio rfl _ _ w.heap.size (.int .i64 0) (.int .i64 0) rfl (by go_simp) (by go_simp)) rfl ⟨rfl, ?_⟩
          exact Ext.two ((((Ext.refl _).alloc _).trans x1).drewN _) _ _
        · rw [if_neg (by omega)]
          have f6 : decide (2147483647 < b) = false := decide_eq_false hb2
          go_enter Tryz.func147, Tryz.ntmps147
          go_wp2_with fail
          refine (hG.out _).mono ?_
          rintro e w1 ⟨rfl, x1⟩
          have hb := (Bx.new w [.int .i64 0, .int .i64 0] 24).ext x1
          have c0 := hb.cell 0 _ rfl
          have c1 := hb.cell 1 _ rfl
          have z0 := hb.frozen 0
          have z1 := hb.frozen 1
          go_wp2_with fail
          go_quiet (fail)
          go_wp2
          refine bodyPost_ret (results_ratio rfl _ _ w.heap.size (.int .i64 a) (.int .i64 b) rfl (by go_simp) (by go_simp)) rfl ⟨rfl, ?_⟩
          exact Ext.two ((((Ext.refl _).alloc _).trans x1).drewN _) _ _

set_option maxRecDepth 100000 in
theorem pRatio (n d : Int) (n0 : 0 ≤ n) (n1 : n ≤ 9223372036854775807) (d1 : d ≤ 9223372036854775807) (w : World) : Calls Tryz.prog 126 #[.agg #[.int .i64 n, .int .i64 d]] w (RetB w (okShare (n, d))) := by
  have k := fun w => pMake n d n0 n1 d1 w
  have e := mk2s_ok n d n0
  rw [e]; clear e
  generalize mk2s n d = M at k ⊢
  obtain ⟨a, b, c⟩ := M
  show Calls _ _ _ _ (RetB w (decide (c = 0) && decide (a = n ∧ b = d)))
  replace k : ∀ w, Calls Tryz.prog 147 #[.int .i64 n, .int .i64 d] w (RetMake w a b c) := k
  replace k := Lib.hid k
  by_cases hc : c = 0
  · subst hc
    go_enter Tryz.func126, Tryz.ntmps126
    go_wp2_with fail
    refine (k.out _).mono ?_
    rintro e w1 ⟨rfl, x1⟩
    have hB : w.heap.size < w1.heap.size := by have := x1.size; simp at this; omega
    have hb := (Bx.new w [.int .i64 n, .int .i64 d] 24).ext x1
    have c0 := hb.cell 0 _ rfl
    have c1 := hb.cell 1 _ rfl
    go_wp2
    all_goals go_ret
    all_goals refine ⟨?_, (((Ext.refl _).alloc _).trans x1).alloc _⟩
    all_goals simp [*]
  · have f1 : (c == 0) = false := beq_false_of_ne hc
    go_enter Tryz.func126, Tryz.ntmps126
    go_wp2_with fail
    refine (k.out _).mono ?_
    rintro e w1 ⟨rfl, x1⟩
    go_wp2
    go_ret
    exact ⟨by simp [hc], (((Ext.refl _).alloc _).trans x1).alloc _⟩
end Go.Proofs.YtnhmibfgaoealaaGreat
namespace Go.Proofs.YtnhmibfgaoealaaGreat
open Go.RowKit
set_option linter.unusedVariables false
set_option linter.unusedSimpArgs false

theorem Bx.new_at (w : World) (cs : List Value) (t : TypeId) (g : Nat) (hg : g = w.heap.size) : Bx (w.alloc (.cells cs.toArray t)) g cs t := by subst hg; exact Bx.new w cs t

theorem Rn.new_at (w : World) (l : List Int) (t : TypeId) (g : Nat) (hg : g = w.heap.size) : Rn (w.alloc (.cells (flat encN l).toArray t)) (some ⟨g, 0, none⟩) l := by subst hg; exact Rn.new w l t
theorem Rs.new_g (w : World) (l : List Sp.S) (t : TypeId) (g : Nat) (hg : g = w.heap.size) : Rs (w.alloc (.cells (flat encS l).toArray t)) (some ⟨g, 0, none⟩) l := by subst hg; exact Rs.new w l t
theorem within1 (lo hi x : Int) (B1 B2 : Nat) (W : World) (c1 : W.cell? ⟨B1, 0, none⟩ = some (.int .i64 lo)) (c2 : W.cell? ⟨B2, 0, none⟩ = some (.int .i64 hi)) :
    Calls Tryz.prog 122 #[.int .i64 x, .pointer (some ⟨B1, 0, none⟩), .pointer (some ⟨B2, 0, none⟩)] W (RetB W (!okIn lo hi x)) := by
  by_cases h : x < lo
  · have e : (!okIn lo hi x) = true := by
      have : okIn lo hi x = false := decide_eq_false (by omega)
      rw [this]; rfl
    rw [e]
    go_enter Tryz.func122, Tryz.ntmps122
    go_wp2
    go_ret
    exact ⟨rfl, Ext.refl _⟩
  · have e : (!okIn lo hi x) = decide (hi < x) := by
      by_cases h2 : hi < x
      · rw [decide_eq_true h2, show okIn lo hi x = false from decide_eq_false (by omega)]; rfl
      · rw [decide_eq_false h2, show okIn lo hi x = true from decide_eq_true (by omega)]; rfl
    rw [e]
    have f1 : decide (x < lo) = false := decide_eq_false h
    go_enter Tryz.func122, Tryz.ntmps122
    go_wp2
    go_ret
    exact ⟨rfl, Ext.refl _⟩

set_option maxRecDepth 100000 in
theorem pAll {w : World} {A : Option Addr} {l : List Int} (h : Rn w A l) (hl : l.length ≤ 9223372036854775806) (cap : Nat) (lo hi : Int) :
    Calls Tryz.prog 92 #[.int .i64 lo, .int .i64 hi, .slice A l.length cap] w (RetB w (l.all (okIn lo hi))) := by
  replace h := Lib.hid h
  go_enter Tryz.func92, Tryz.ntmps92
  go_wp2_with fail
  refine (cont_int l (atB (fun x => !okIn lo hi x) l) 122 #[.pointer (some ⟨w.heap.size, 0, none⟩), .pointer (some ⟨w.heap.size + 1, 0, none⟩)] (enters_of Tryz.func122 (by kernel_rfl) rfl)
    (fun _ W => Ext ((w.alloc (.cells #[.int .i64 lo] 3)).alloc (.cells #[.int .i64 hi] 3)) W) A cap _ hl (fun j W k => ((h.out.alloc _).alloc _).ext k) (fun j W x hx k => ?_) (Ext.refl _)).mono ?_
  · rw [atB_at hx]
    refine (within1 lo hi x _ _ W ((((Bx.new w [.int .i64 lo] 3).alloc _).ext k).cell 0 _ rfl) (((Bx.new_at (w.alloc (.cells #[.int .i64 lo] 3)) [.int .i64 hi] 3 (w.heap.size + 1) (by simp)).ext k).cell 0 _ rfl)).mono ?_
    exact fun _ _ ⟨e, x⟩ => ⟨e, k.trans x⟩
  · rintro e w' ⟨⟨b, rfl, hb⟩, j, X⟩
    have hq := none_of hb
    rw [← hq]
    go_wp2
    go_ret
    exact ⟨rfl, (((Ext.refl _).alloc _).alloc _).trans X⟩

set_option maxRecDepth 100000 in
theorem share1 (x : Int × Int) (b1 : B64 x.1) (b2 : B64 x.2) (W : World) : Calls Tryz.prog 125 #[.agg #[.int .i64 x.1, .int .i64 x.2]] W (RetB W (!okShare x)) := by
  obtain ⟨n, d⟩ := x
  obtain ⟨b1l, b1u⟩ := b1
  obtain ⟨b2l, b2u⟩ := b2
  replace b1l : -9223372036854775808 ≤ n := b1l
  replace b1u : n ≤ 9223372036854775807 := b1u
  replace b2u : d ≤ 9223372036854775807 := b2u
  show Calls Tryz.prog 125 #[.agg #[.int .i64 n, .int .i64 d]] W (RetB W (!okShare (n, d)))
  by_cases h : n < 0
  · have e : (!okShare (n, d)) = true := by
      have : okShare (n, d) = false := decide_eq_false (fun k => by have := k.1; omega)
      rw [this]; rfl
    rw [e]
    go_enter Tryz.func125, Tryz.ntmps125
    go_wp2
    go_ret
    exact ⟨rfl, (Ext.refl _).alloc _⟩
  · have f1 : decide (n < 0) = false := decide_eq_false h
    go_enter Tryz.func125, Tryz.ntmps125
    go_wp2_with fail
    refine (pRatio n d (by omega) b1u b2u _).mono ?_
    rintro e w1 ⟨rfl, x1⟩
    go_wp2
    go_ret
    exact ⟨rfl, ((Ext.refl _).alloc _).trans x1⟩

set_option maxRecDepth 100000 in
theorem pShares {w : World} {A : Option Addr} {l : List (Int × Int)} (h : Rd encS 2 w w.heap.size A l) (hl : l.length ≤ 9223372036854775806) (hb : ∀ x ∈ l, B64 x.1 ∧ B64 x.2) (cap : Nat) :
    Calls Tryz.prog 95 #[.slice A l.length cap] w (RetB w (l.all okShare)) := by
  replace h : Hid (Rs w A l) := h
  go_enter Tryz.func95, Tryz.ntmps95
  go_wp2_with fail
  refine (cont_ratio l (atB (fun x => !okShare x) l) 125 #[] (enters_of Tryz.func125 (by kernel_rfl) rfl)
    (fun _ W => Ext w W) A cap _ hl (fun j W k => h.out.ext k) (fun j W x hx k => ?_) (Ext.refl _)).mono ?_
  · rw [atB_at hx]
    exact (share1 x (hb x (List.mem_of_getElem? hx)).1 (hb x (List.mem_of_getElem? hx)).2 W).mono fun _ _ ⟨e, x⟩ => ⟨e, k.trans x⟩
  · rintro e w' ⟨⟨b, rfl, hb⟩, j, X⟩
    have hq := none_of hb
    rw [← hq]
    go_wp2
    go_ret
    exact ⟨rfl, X⟩

set_option maxRecDepth 100000 in
theorem way1 (p : Int) (p0 : 1 ≤ p) (p1 : p ≤ 16) (B : Nat) (x : Int × Int × Int) (W : World) (hp : W.cell? ⟨B, 0, none⟩ = some (.int .i64 p)) (hB : B < W.heap.size) :
    Calls Tryz.prog 91 #[.agg #[.int .i64 x.1, .int .i64 x.2.1, .int .i64 x.2.2], .pointer (some ⟨B, 0, none⟩)] W (RetB W (!okWay p x)) := by
  obtain ⟨a, b, m⟩ := x
  show Calls Tryz.prog 91 #[.agg #[.int .i64 a, .int .i64 b, .int .i64 m], .pointer (some ⟨B, 0, none⟩)] W (RetB W (!(okIn 0 (p - 1) a && okIn 0 (p - 1) b && decide (a ≠ b) && okIn 1 10000 m)))
  have k1 : ∀ (w : World) (g : Nat) (hg : g = w.heap.size), Calls Tryz.prog 92 #[.int .i64 0, .int .i64 (p - 1), .slice (some ⟨g, 0, none⟩) 2 2] (w.alloc (.cells #[.int .i64 a, .int .i64 b] 3)) (RetB _ _) := fun (w : World) (g : Nat) (hg : g = w.heap.size) => pAll (Rn.new_at w [a, b] 3 g hg) (by simp) 2 0 (p - 1)
  have k2 : ∀ (w : World) (g : Nat) (hg : g = w.heap.size), Calls Tryz.prog 92 #[.int .i64 1, .int .i64 10000, .slice (some ⟨g, 0, none⟩) 1 1] (w.alloc (.cells #[.int .i64 m] 3)) (RetB _ _) := fun (w : World) (g : Nat) (hg : g = w.heap.size) => pAll (Rn.new_at w [m] 3 g hg) (by simp) 1 1 10000
  have e1 : ([a, b] : List Int).all (okIn 0 (p - 1)) = (okIn 0 (p - 1) a && okIn 0 (p - 1) b) := by simp
  have e2 : ([m] : List Int).all (okIn 1 10000) = okIn 1 10000 m := by simp
  rw [← e1, ← e2]
  replace k1 := Lib.hid k1; replace k2 := Lib.hid k2
  clear e1 e2
  generalize hq1 : ([a, b] : List Int).all (okIn 0 (p - 1)) = q1 at k1 ⊢
  generalize hq2 : ([m] : List Int).all (okIn 1 10000) = q2 at k2 ⊢
  clear hq1 hq2
  have hne : B ≠ W.heap.size := by omega
  go_enter Tryz.func91, Tryz.ntmps91
  go_wp2_with fail
  refine (k1.out _ _ (by simp)).mono ?_
  rintro e w1 ⟨rfl, x1⟩
  have hb := ((Bx.new W [.int .i64 a, .int .i64 b, .int .i64 m] 104).alloc _).ext x1
  have c0 := hb.cell 0 _ rfl
  have c1 := hb.cell 1 _ rfl
  have c2 := hb.cell 2 _ rfl
  have X := (((Ext.refl W).alloc (.cells #[.int .i64 a, .int .i64 b, .int .i64 m] 104)).alloc _).trans x1
  cases q1
  · go_wp2
    go_ret
    exact ⟨rfl, X⟩
  · by_cases hab : a = b
    · have f1 : (a == b) = true := by simp [hab]
      go_wp2
      go_ret
      exact ⟨by simp [hab], X⟩
    · have f1 : (a == b) = false := by simp [hab]
      go_wp2_with fail
      refine (k2.out _ _ (by simp)).mono ?_
      rintro e w2 ⟨rfl, x2⟩
      go_wp2
      go_ret
      exact ⟨by simp [hab], (X.alloc _).trans x2⟩

set_option maxRecDepth 100000 in
theorem elem1 (x : (Int × Int) × (Int × Int)) (b1 : B64 x.1.1 ∧ B64 x.1.2) (b2 : B64 x.2.1 ∧ B64 x.2.2) (W : World) :
    Calls Tryz.prog 94 #[.agg #[.int .i64 x.1.1, .int .i64 x.1.2, .int .i64 x.2.1, .int .i64 x.2.2]] W (RetB W (!okEl x)) := by
  have k1 : ∀ (w : World) (g : Nat) (hg : g = w.heap.size), Calls Tryz.prog 95 #[.slice (some ⟨g, 0, none⟩) 2 2] (w.alloc (.cells #[.int .i64 x.1.1, .int .i64 x.1.2, .int .i64 x.2.1, .int .i64 x.2.2] 24)) (RetB _ _) := fun (w : World) (g : Nat) (hg : g = w.heap.size) => pShares (Rs.new_g w [x.1, x.2] 24 g hg) (by simp) (by intro y hy; simp at hy; rcases hy with rfl | rfl; exact b1; exact b2) 2
  have e1 : ([x.1, x.2] : List (Int × Int)).all okShare = okEl x := by simp [okEl]
  rw [← e1]
  generalize ([x.1, x.2] : List (Int × Int)).all okShare = q1 at k1 ⊢
  replace k1 := Lib.hid k1
  clear e1 b1 b2
  go_enter Tryz.func94, Tryz.ntmps94
  go_wp2_with fail
  refine (k1.out _ _ (by simp)).mono ?_
  rintro e w1 ⟨rfl, x1⟩
  go_wp2
  go_ret
  exact ⟨rfl, (((Ext.refl W).alloc _).alloc _).trans x1⟩

set_option maxRecDepth 100000 in
theorem tier1 (last : Int) (B : Nat) (t : Int × Int) (W : World) (hb : Bx W B [.int .i64 last] 3) :
    Calls Tryz.prog 97 #[.agg #[.int .i64 t.1, .int .i64 t.2], .pointer (some ⟨B, 0, none⟩)] W fun e w' => e = .returned (.bool (!okTier last t)) ∧ Bx w' B [.int .i64 t.1] 3 ∧ Below B W w' := by
  obtain ⟨n, m⟩ := t
  have hB := hb.lt
  have hne : B ≠ W.heap.size := by omega
  have c0 := hb.cell 0 _ rfl
  have z0 := hb.frozen 0
  replace hb := Lib.hid hb
  show Calls Tryz.prog 97 #[.agg #[.int .i64 n, .int .i64 m], .pointer (some ⟨B, 0, none⟩)] W fun e w' => e = .returned (.bool (!(decide (last < n ∧ n ≤ 1000) && okIn 0 100000 m))) ∧ Bx w' B [.int .i64 n] 3 ∧ Below B W w'
  by_cases h1 : n ≤ last
  · have f0 : decide (last < n ∧ n ≤ 1000) = false := decide_eq_false (by omega)
    go_enter Tryz.func97, Tryz.ntmps97
    go_wp2
    go_ret
    exact ⟨by first | rfl | (rw [f0]; rfl) | (rw [decide_eq_false (show ¬ n ≤ 1000 by omega)]; rfl), (hb.out.set_ 0 _).alloc _, ((Below.refl B W).setCell (p := ⟨B, 0, none⟩) (Nat.le_refl _) _).alloc (by simp; omega) _⟩
  · have f1 : decide (n ≤ last) = false := decide_eq_false h1
    by_cases h2 : 1000 < n
    · have f0 : decide (last < n ∧ n ≤ 1000) = false := decide_eq_false (by omega)
      go_enter Tryz.func97, Tryz.ntmps97
      go_wp2
      go_ret
      exact ⟨by first | rfl | (rw [f0]; rfl) | (rw [decide_eq_false (show ¬ n ≤ 1000 by omega)]; rfl), (hb.out.set_ 0 _).alloc _, ((Below.refl B W).setCell (p := ⟨B, 0, none⟩) (Nat.le_refl _) _).alloc (by simp; omega) _⟩
    · have f2 : decide (1000 < n) = false := decide_eq_false h2
      have f0 : decide (last < n ∧ n ≤ 1000) = true := decide_eq_true (by omega)
      have k2 : ∀ (w : World) (g : Nat) (hg : g = w.heap.size), Calls Tryz.prog 92 #[.int .i64 0, .int .i64 100000, .slice (some ⟨g, 0, none⟩) 1 1] (w.alloc (.cells #[.int .i64 m] 3)) (RetB _ _) := fun (w : World) (g : Nat) (hg : g = w.heap.size) => pAll (Rn.new_at w [m] 3 g hg) (by simp) 1 0 100000
      have e2 : ([m] : List Int).all (okIn 0 100000) = okIn 0 100000 m := by simp
      rw [← e2]; clear e2
      generalize ([m] : List Int).all (okIn 0 100000) = q2 at k2 ⊢
      replace k2 := Lib.hid k2
      go_enter Tryz.func97, Tryz.ntmps97
      go_wp2_with fail
      refine (k2.out _ _ (by simp)).mono ?_
      rintro e w1 ⟨rfl, x1⟩
      have hb1 := ((hb.out.alloc (.cells #[.int .i64 n, .int .i64 m] 114)).alloc _).ext x1
      have c1 := hb1.cell 0 _ rfl
      have z1 := hb1.frozen 0
      have hd := ((Bx.new W [.int .i64 n, .int .i64 m] 114).alloc _).ext x1
      have d0 := hd.cell 0 _ rfl
      have X := (((Below.refl B W).alloc (by omega) (.cells #[.int .i64 n, .int .i64 m] 114)).alloc (by simp; omega) _).trans (Below.mono x1 (by simp; omega))
      replace hb1 := Lib.hid hb1
      clear hd
      go_wp2
      go_ret
      exact ⟨by first | rfl | (rw [f0]; rfl), hb1.out.set_ 0 _, X.setCell (p := ⟨B, 0, none⟩) (Nat.le_refl _) _⟩
end Go.Proofs.YtnhmibfgaoealaaGreat
