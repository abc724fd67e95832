/-
  lumperref05: digits, One, Put.
-/
import Derived.Test.YtmbjbbflhlndcaaJe
namespace Go.Proofs.Ytmbjbbflhlndcaa
open Go.RowKit BigFrame
set_option linter.unusedVariables false
set_option linter.unusedSimpArgs false

set_option maxRecDepth 100000 in
set_option maxHeartbeats 1000000 in
theorem rDigits (n : Nat) (hn : n ≤ 9223372036854775807) (w : World) : Calls Try.prog 101 #[.int .i64 n] w (RetBy w (digs n)) := by
  induction n using Nat.strongRecOn generalizing w with
  | ind n ih =>
    rcases Nat.eq_zero_or_pos n with h0 | h0
    · subst h0
      rw [digs_zero]
      clear ih
      go_enter Try.func101, Try.ntmps101
      go_wp2
      go_ret
      exact ⟨none, 0, rfl, Rw.nil, Ext.refl _, own_nilG _ _⟩
    · have hq : n / 256 < n := by omega
      have k := Lib.hid (ih (n / 256) hq (by omega) w)
      have h8 := needN_8 (n := n / 256) (by omega)
      have e := digs_pos h0
      have d1 : decide ((n : Int) = 0) = false := decide_eq_false (by omega)
      have d1b : decide (n = 0) = false := decide_eq_false (by omega)
      have d1c : ((n : Int) == 0) = false := by rw [beq_eq_false_iff_ne]; omega
      rw [e]
      unfold needN at h8
      obtain ⟨D, hD⟩ : ∃ D, digs (n / 256) = D := ⟨_, rfl⟩
      rw [hD] at k h8 ⊢
      have ez : UInt8.ofNat n = UInt8.ofNat (((n : Int) % 256)).toNat := by
        apply UInt8.toNat_inj.1
        rw [u8_ofNat_toNat, u8_ofNat_toNat]; omega
      rw [ez]
      clear ih e hD ez
      obtain ⟨z, hz⟩ : ∃ z, (n : Int) % 256 = z := ⟨_, rfl⟩
      rw [hz]
      have hz2 : 0 ≤ z ∧ z ≤ 255 := by omega
      have kk := k.out
      rw [show ((n / 256 : Nat) : Int) = (n : Int) / 256 from by omega] at kk
      replace kk := Lib.hid kk
      clear k
      go_enter Try.func101, Try.ntmps101
      go_wp2_with fail
      refine kk.out.mono ?_
      rintro e w1 ⟨A1, c1, rfl, _, x1, o1⟩
      obtain ⟨m, hm⟩ : ∃ m, D.length = m := ⟨_, rfl⟩
      replace hm := Lib.hid hm
      rw [hm.out] at o1 h8 ⊢
      go_wp2_with (at_builtin; refine appG elB w _ (x1.alloc _) _ _ (by rfl) (by rfl) m _ D [UInt8.ofNat z.toNat] (by rfl) (own_below o1 ((Ext.refl w1).alloc _)) hm.out.symm (some ⟨_, 0, none⟩) 1 1 (by rfl) rfl (Rb.new1 _ z hz2 _ rfl) (by rw [hm.out]; simp; omega) ?_; intro A5 c5 w5 o5 x5)
      go_ret
      have hm2 := hm.out
      subst hm2
      have o6 : w5.ownsRow w.heap.size 5 1 (.slice A5 (D ++ [UInt8.ofNat z.toNat]).length c5) (D ++ [UInt8.ofNat z.toNat]).length (flat encB (D ++ [UInt8.ofNat z.toNat])) := by rw [List.length_append]; exact o5
      exact ⟨A5, c5, by simp, Rw.own elB o6, x5, o6⟩

set_option maxRecDepth 100000 in
theorem rOne (n : Int) (h0 : 0 ≤ n) (h1 : n ≤ 9223372036854775807) (w : World) : Calls Try.prog 86 #[.int .i64 n] w (RetBy w (one n.toNat)) := by
  have k := rDigits n.toNat (by omega) w
  rw [show ((n.toNat : Nat) : Int) = n from by omega] at k
  have h8 := needN_8 (n := n.toNat) (by omega)
  unfold one
  unfold needN at h8 ⊢
  obtain ⟨D, hD⟩ : ∃ D, digs n.toNat = D := ⟨_, rfl⟩
  rw [hD] at k h8 ⊢
  obtain ⟨m, hm⟩ : ∃ m, D.length = m := ⟨_, rfl⟩
  replace k := Lib.hid k
  rw [hm] at h8 ⊢
  replace hm := Lib.hid hm
  clear hD
  go_enter Try.func86, Try.ntmps86
  go_wp2_with fail
  refine k.out.mono ?_
  rintro e w1 ⟨A1, c1, rfl, r1, x1, _⟩
  rw [hm.out]
  have hown : Hid ((w1.alloc (.cells #[.int .u8 (m : Int)] 5)).ownsRow w.heap.size 5 1 (.slice (some ⟨w1.heap.size, 0, none⟩) 1 1) 1 (flat encB [UInt8.ofNat m])) := by
    have := own_newG elB w1 [UInt8.ofNat m] w.heap.size x1.size (by simp)
    have e : (flat encB [UInt8.ofNat m]).toArray = #[.int .u8 (m : Int)] := by
      show #[Value.int .u8 ((UInt8.ofNat m).toNat : Int)] = _
      rw [u8_ofNat_toNat]
      congr 2
      congr 1
      omega
    rw [e] at this
    exact this
  go_wp2_with (at_builtin; refine appG elB w _ (x1.alloc _) _ _ (by rfl) (by rfl) 1 _ [UInt8.ofNat m] D (by rfl) hown.out rfl A1 c1 m (by rfl) hm.out.symm (r1.alloc _) (by rw [hm.out]; simp; omega) ?_; intro A5 c5 w5 o5 x5)
  go_ret
  have hm2 := hm.out
  have o6 : w5.ownsRow w.heap.size 5 1 (.slice A5 (UInt8.ofNat m :: D).length c5) (UInt8.ofNat m :: D).length (flat encB (UInt8.ofNat m :: D)) := by rw [List.length_cons, hm2, Nat.add_comm]; exact o5
  exact ⟨A5, c5, by rw [List.length_cons, hm2, Nat.add_comm]; rfl, Rw.own elB o6, x5, o6⟩

set_option maxRecDepth 100000 in
set_option maxHeartbeats 2000000 in
theorem rPut0 {w : World} {A B : Option Addr} {b : List UInt8} {l : List Int} (h : Rb w A b) (hl : Rn w B l) (hb : b.length ≤ 100000000) (ll : l.length ≤ 10000000) (h64 : ∀ n ∈ l, B64 n) (c d : Nat) (R : List UInt8) (r : Int)
    (h0 : (∀ n ∈ l, 0 ≤ n) → R = b ++ encZ l ∧ r = 0) (h1 : (∃ n ∈ l, n < 0) → R = [] ∧ r = 50) :
    Calls Try.prog 67 #[.slice A b.length c, .slice B l.length d] w (RetBE w R r) := by
  replace h0 := Lib.hid h0; replace h1 := Lib.hid h1; replace h64 := Lib.hid h64; replace hl := Lib.hid hl; replace h := Lib.hid h
  go_enter Try.func67, Try.ntmps67
  go_wp2_with (at_builtin; refine appG elB w _ ((Ext.refl w).alloc _) _ _ (by rfl) (by rfl) 0 _ [] b (by rfl) (own_emptyG w _ (Nat.le_refl _)) rfl A c b.length (by rfl) rfl (h.out.alloc _) (by simp; omega) ?_; intro A1 c1 w1 o1 x1; rw [Nat.zero_add] at o1; rw [Nat.zero_add]; replace x1 := Lib.hid x1; replace o1 := Lib.hid o1)
  go_loopw [6, 7] (fun v i wr => ∃ (k n : Nat) (A2 : Option Addr) (c2 : Nat), k ≤ l.length ∧ i = .int .i64 k ∧ v = .slice A2 n c2 ∧ Hid (n = (b ++ encZ (l.take k)).length) ∧ Hid (wr.ownsRow w.heap.size 5 1 (.slice A2 n c2) n (flat encB (b ++ encZ (l.take k)))) ∧ Hid (Ext w wr) ∧ Hid (∀ x ∈ l.take k, 0 ≤ x)) (fun _ i _ => l.length - (intOf i).toNat)
  case atStart => exact ⟨0, b.length, A1, c1, Nat.zero_le _, rfl, rfl, by show _ = _; simp [encZ, encNs], by show World.ownsRow _ _ _ _ _ _ _; have := o1.out; simpa [encZ, encNs] using this, x1.out, by show ∀ x ∈ _, _; simp⟩
  case round =>
    obtain ⟨k, n, A2, c2, hk, rfl, rfl, HN, HO, HX, HP⟩ := hrel
    by_cases hlt : k < l.length
    · obtain ⟨b0, off, x, rfl, hbB, hx, y0⟩ := hl.out.atN HX.out hlt
      have q3 : (k : Int) < (l.length : Int) := by omega
      have q4 : (0 : Int) ≤ (k : Int) := by omega
      by_cases hneg : x < 0
      · have d1 : decide (x < 0) = true := decide_eq_true hneg
        obtain ⟨rfl, rfl⟩ := h1.out ⟨x, List.mem_of_getElem? hx.out, hneg⟩
        go_wp2_with fail
        go_ret2
        exact ⟨none, 0, rfl, Rw.nil, HX.out, own_nilG _ _⟩
      · have d1 : decide (x < 0) = false := decide_eq_false hneg
        have hx64 := h64.out x (List.mem_of_getElem? hx.out)
        unfold B64 at hx64
        have hOn := rOne x (by omega) (by omega)
        have h8 := needN_8 (n := x.toNat) (by omega)
        have E : Hid (b ++ encZ (l.take (k + 1)) = (b ++ encZ (l.take k)) ++ one x.toNat) := by show _ = _; rw [take_snoc hx.out, encZ_snoc, List.append_assoc]
        have hL := one_len x.toNat
        obtain ⟨D, hD⟩ : ∃ D, one x.toNat = D := ⟨_, rfl⟩
        rw [hD] at hOn E hL
        obtain ⟨m, hm⟩ : ∃ m, D.length = m := ⟨_, rfl⟩
        have hm9 : m ≤ 9 := by omega
        have hOn : ∀ W, Calls Try.prog 86 #[.int .i64 x] W (fun e w' => ∃ A cap, e = .returned (.slice A m cap) ∧ Rb w' A D ∧ Ext W w') := fun W => (hOn W).mono fun _ _ ⟨A, c, he, h1, h2, _⟩ => ⟨A, c, by rw [he, hm], h1, h2⟩
        replace hOn := Lib.hid hOn; replace hm := Lib.hid hm
        clear hD hL h8
        have lb : Hid ((b ++ encZ (l.take k)).length ≤ 190000000) := by
          show _ ≤ _
          have := encZ_len (l.take k) fun n hn => h64.out n (List.mem_of_mem_take hn)
          have : (l.take k).length ≤ l.length := by simp; omega
          rw [List.length_append]; omega
        have lbo := lb.out
        rw [← HN.out] at lbo
        go_wp2_with fail
        refine (hOn.out _).mono ?_
        rintro e w2 ⟨A3, c3, rfl, r3, x3⟩
        have HO2 := Lib.hid (own_below HO.out x3)
        have HX2 := Lib.hid (HX.out.trans x3)
        clear HO HX x3
        go_wp2_with (at_builtin; refine appG elB w _ HX2.out _ _ (by rfl) (by rfl) n _ _ D (by rfl) HO2.out HN.out A3 c3 m (by rfl) hm.out.symm r3 (by rw [← HN.out, hm.out]; omega) ?_; intro A5 c5 w5 o5 x5)
        have HN5 : Hid (n + m = (b ++ encZ (l.take (k + 1))).length) := by show _ = _; rw [E.out, List.length_append, ← HN.out, hm.out]
        rw [← E.out] at o5
        have HP2 : Hid (∀ x ∈ l.take (k + 1), 0 ≤ x) := by
          show ∀ y ∈ _, _
          rw [take_snoc hx.out]
          intro y hy
          rcases List.mem_append.1 hy with hy | hy
          · exact HP.out y hy
          · simp at hy; subst hy; omega
        replace o5 := Lib.hid o5; replace x5 := Lib.hid x5
        clear HN E HO2 HX2 hm hOn HP
        go_wp2
        go_roundw
        case rel => exact ⟨k + 1, n + m, A5, c5, by omega, by go_num, rfl, HN5, o5, x5, HP2⟩
        case measure => simp [intOf]; omega
    · obtain rfl : k = l.length := by omega
      rw [List.take_length] at HN HO HP
      obtain ⟨rfl, rfl⟩ := h0.out HP.out
      go_wp2_with fail
      go_ret2
      have hn := HN.out
      subst hn
      exact ⟨A2, c2, rfl, Rw.own elB HO.out, HX.out, HO.out⟩
theorem rPutY {w : World} {A B : Option Addr} {b : List UInt8} {l : List Int} (h : Rb w A b) (hl : Rn w B l) (hb : b.length ≤ 100000000) (ll : l.length ≤ 10000000) (h64 : ∀ n ∈ l, B64 n) (c d : Nat) (hp : ∀ n ∈ l, 0 ≤ n) :
    Calls Try.prog 67 #[.slice A b.length c, .slice B l.length d] w (RetBE w (b ++ encZ l) 0) :=
  rPut0 h hl hb ll h64 c d _ _ (fun _ => ⟨rfl, rfl⟩) (fun ⟨n, hn, h⟩ => by have := hp n hn; omega)
end Go.Proofs.Ytmbjbbflhlndcaa
