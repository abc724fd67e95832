/-
  pack.Put: numbers put behind bytes.
-/
import Derived.Test.YtmbjbbflhlndcaaJd
namespace Go.Proofs.Ytmbjbbflhlndcaa
open Go.RowKit BigFrame
set_option linter.unusedVariables false
set_option linter.unusedSimpArgs false

theorem Rn.atN {w w' : World} {A : Option Addr} {l : List Int} (h : Rn w A l) (hX : Ext w w') {j : Nat} (hj : j < l.length) :
    ∃ b off c, A = some ⟨b, off, none⟩ ∧ b < w.heap.size ∧ Hid (l[j]? = some c) ∧ w'.cell? ⟨b, off + j, none⟩ = some (.int .i64 c) := by
  obtain ⟨b, off, c, hA, hb, hx, hc⟩ := (Rd.below h hX).at_ hj
  refine ⟨b, off, c, hA, hb, hx, ?_⟩
  have := hc 0 _ rfl
  rw [Nat.mul_one, Nat.add_zero] at this
  exact this
theorem Rb.new1 (w : World) (z : Int) (h : 0 ≤ z ∧ z ≤ 255) (g : Nat) (hg : g = w.heap.size) : Rb (w.alloc (.cells #[.int .u8 z] 5)) (some ⟨g, 0, none⟩) [UInt8.ofNat z.toNat] := by
  have := Rw.new_at elB w [UInt8.ofNat z.toNat] 5 g hg
  have e : (flat encB [UInt8.ofNat z.toNat]).toArray = #[.int .u8 z] := by
    show #[Value.int .u8 ((UInt8.ofNat z.toNat).toNat : Int)] = _
    rw [u8_ofNat_toNat]
    congr 2
    congr 1
    omega
  rw [e] at this
  exact this
/-- What a call leaves that hands back bytes, and a number. -/
def RetBE (w : World) (R : List UInt8) (c : Int) (e : Ending) (w' : World) : Prop := ∃ A cap, e = .returned (.tuple #[.slice A R.length cap, .int .i64 c]) ∧ Rb w' A R ∧ Ext w w' ∧ w'.ownsRow w.heap.size 5 1 (.slice A R.length cap) R.length (flat encB R)
/-- Numbers' bytes. -/
def encZ (l : List Int) : List UInt8 := encNs (l.map Int.toNat)
theorem encZ_snoc (l : List Int) (x : Int) : encZ (l ++ [x]) = encZ l ++ one x.toNat := by simp [encZ, encNs]
theorem encZ_append (l m : List Int) : encZ (l ++ m) = encZ l ++ encZ m := by simp [encZ, encNs]
theorem encZ_len (l : List Int) (h : ∀ n ∈ l, B64 n) : (encZ l).length ≤ 9 * l.length := by
  induction l with
  | nil => simp [encZ, encNs]
  | cons x l ih =>
    have := ih fun n hn => h n (by simp [hn])
    have hx := h x (by simp)
    have h8 := needN_8 (n := x.toNat) (by unfold B64 at hx; omega)
    have e : encZ (x :: l) = one x.toNat ++ encZ l := by simp [encZ, encNs]
    rw [e, List.length_append, one_len, List.length_cons]
    omega

set_option maxRecDepth 100000 in
set_option maxHeartbeats 2000000 in
theorem pPut0 {w : World} {A B : Option Addr} {b : List UInt8} {l : List Int} (h : Rb w A b) (hl : Rn w B l) (hb : b.length ≤ 140000000000000) (ll : l.length ≤ 10000000) (h64 : ∀ n ∈ l, B64 n) (c d : Nat) (R : List UInt8) (r : Int)
    (h0 : (∀ n ∈ l, 0 ≤ n) → R = b ++ encZ l ∧ r = 0) (h1 : (∃ n ∈ l, n < 0) → R = [] ∧ r = 50) :
    Calls Try.prog 55 #[.slice A b.length c, .slice B l.length d] w (RetBE w R r) := by
  have hC := Lib.hid (pCloneB h (by omega) c)
  replace h0 := Lib.hid h0; replace h1 := Lib.hid h1; replace h64 := Lib.hid h64; replace hl := Lib.hid hl
  clear h
  go_enter Try.func55, Try.ntmps55
  go_wp2_with fail
  refine hC.out.mono ?_
  rintro e w1 ⟨A1, c1, rfl, _, x1, o1⟩
  replace x1 := Lib.hid x1; replace o1 := Lib.hid o1
  clear hC
  go_wp2_with fail
  go_loopw [6, 14] (fun v i wr => ∃ (k n : Nat) (A2 : Option Addr) (c2 : Nat), k ≤ l.length ∧ i = .int .i64 k ∧ v = .slice A2 n c2 ∧ Hid (n = (b ++ encZ (l.take k)).length) ∧ Hid (wr.ownsRow w.heap.size 5 1 (.slice A2 n c2) n (flat encB (b ++ encZ (l.take k)))) ∧ Hid (Ext w wr) ∧ Hid (∀ x ∈ l.take k, 0 ≤ x)) (fun _ i _ => l.length - (intOf i).toNat)
  case atStart => exact ⟨0, b.length, A1, c1, Nat.zero_le _, rfl, rfl, by show _ = _; simp [encZ, encNs], by show World.ownsRow _ _ _ _ _ _ _; have := o1.out; simpa [encZ, encNs] using this, x1.out, by show ∀ x ∈ _, _; simp⟩
  case round =>
    obtain ⟨k, n, A2, c2, hk, rfl, rfl, HN, HO, HX, HP⟩ := hrel
    by_cases hlt : k < l.length
    · obtain ⟨b0, off, x, rfl, hbB, hx, y0⟩ := hl.out.atN HX.out hlt
      have q3 : (k : Int) < (l.length : Int) := by omega
      have q4 : (0 : Int) ≤ (k : Int) := by omega
      by_cases hneg : x < 0
      · have d1 : decide (x < 0) = true := decide_eq_true hneg
        obtain ⟨rfl, rfl⟩ := h1.out ⟨x, List.mem_of_getElem? hx.out, hneg⟩
        go_wp2_with fail
        go_ret2
        exact ⟨none, 0, rfl, Rw.nil, HX.out, own_nilG _ _⟩
      · have d1 : decide (x < 0) = false := decide_eq_false hneg
        have hx64 := h64.out x (List.mem_of_getElem? hx.out)
        unfold B64 at hx64
        have hNd := pNeed x (by omega) (by omega)
        have h8 := needN_8 (n := x.toNat) (by omega)
        obtain ⟨m, hm⟩ : ∃ m, needN x.toNat = m := ⟨_, rfl⟩
        rw [hm] at hNd h8
        replace hNd := Lib.hid hNd; replace hm := Lib.hid hm
        go_wp2_with fail
        refine (hNd.out _).mono ?_
        rintro e w2 ⟨rfl, rfl⟩
        have lb : Hid ((b ++ encZ (l.take k)).length ≤ 140000090000000) := by
          show _ ≤ _
          have := encZ_len (l.take k) fun n hn => h64.out n (List.mem_of_mem_take hn)
          have : (l.take k).length ≤ l.length := by simp; omega
          rw [List.length_append]; omega
        have lbo := lb.out
        rw [← HN.out] at lbo
        go_wp2_with (at_builtin; refine appG elB w _ (HX.out.alloc _) _ _ (by rfl) (by rfl) n _ (b ++ encZ (l.take k)) [UInt8.ofNat m] (by rfl) (HO.out.alloc _) HN.out (some ⟨wr.heap.size, 0, none⟩) 1 1 (by rfl) rfl (Rb.new1 wr m (by omega) _ rfl) (by rw [← HN.out]; simp; omega) ?_; intro A3 c3 w3 o3 x3)
        clear HO HX
        have HN3 : Hid (n + 1 = ((b ++ encZ (l.take k)) ++ [UInt8.ofNat m]).length) := by show _ = _; rw [List.length_append, ← HN.out]; rfl
        obtain ⟨O, hO⟩ : ∃ O, (b ++ encZ (l.take k)) ++ [UInt8.ofNat m] = O := ⟨_, rfl⟩
        rw [hO] at HN3 o3
        replace o3 := Lib.hid o3; replace x3 := Lib.hid x3; replace hO := Lib.hid hO
        have lbo2 : n + 1 ≤ 140000090000001 := by omega
        go_loopw [6, 9] (fun v i wq => ∃ (j n2 : Nat) (A4 : Option Addr) (c4 : Nat), j ≤ m ∧ i = .int .i64 j ∧ v = .slice A4 n2 c4 ∧ Hid (n2 = (O ++ (digs x.toNat).take (m - j)).length) ∧ Hid (wq.ownsRow w.heap.size 5 1 (.slice A4 n2 c4) n2 (flat encB (O ++ (digs x.toNat).take (m - j)))) ∧ Hid (Ext w wq)) (fun _ i _ => (intOf i).toNat)
        case atStart => exact ⟨m, n + 1, A3, c3, Nat.le_refl _, rfl, rfl, by show _ = _; simpa using HN3.out, by show World.ownsRow _ _ _ _ _ _ _; have := o3.out; simpa using this, x3.out⟩
        case round =>
          obtain ⟨j, n2, A4, c4, hj, rfl, rfl, HN4, HO4, HX4⟩ := hrel
          by_cases hj0 : j = 0
          · subst hj0
            have E : Hid (b ++ encZ (l.take (k + 1)) = O ++ (digs x.toNat).take (m - 0)) := by
              show _ = _
              have hm0 := hm.out
              unfold needN at hm0
              rw [take_snoc hx.out, encZ_snoc, ← hO.out, Nat.sub_zero, ← hm0, List.take_length]
              unfold one needN
              simp [List.append_assoc]
            have HP2 : Hid (∀ x ∈ l.take (k + 1), 0 ≤ x) := by
              show ∀ y ∈ _, _
              rw [take_snoc hx.out]
              intro y hy
              rcases List.mem_append.1 hy with hy | hy
              · exact HP.out y hy
              · simp at hy; subst hy; exact hneg
            rw [← E.out] at HN4 HO4
            clear hj HN3 o3 x3 HN HP hO E hm hNd
            go_wp2
            go_roundw
            case rel => exact ⟨k + 1, n2, A4, c4, by omega, by go_num, rfl, HN4, HO4, HX4, HP2⟩
            case measure => simp [intOf]; omega
          · obtain ⟨q, rfl⟩ : ∃ q, j = q + 1 := ⟨j - 1, by omega⟩
            have f6 : decide (0 < q + 1) = true := decide_eq_true (by omega)
            clear hj0
            obtain ⟨z, hz⟩ : ∃ z, x / 2 ^ (8 * q) % 256 = z := ⟨_, rfl⟩
            have hz2 : 0 ≤ z ∧ z ≤ 255 := by rw [← hz]; omega
            have E : Hid (O ++ (digs x.toNat).take (m - q) = (O ++ (digs x.toNat).take (m - (q + 1))) ++ [UInt8.ofNat z.toNat]) := by
              show _ = _
              have hd := digs_at x.toNat (i := m - (q + 1)) (by rw [hm.out]; omega)
              rw [hm.out, show m - 1 - (m - (q + 1)) = q by omega] at hd
              have e2 : m - q = m - (q + 1) + 1 := by omega
              have e5 : UInt8.ofNat (x.toNat / 256 ^ q) = UInt8.ofNat z.toNat := by
                rw [← hz]
                apply UInt8.toNat_inj.1
                rw [u8_ofNat_toNat, u8_ofNat_toNat]
                have e3 : x = (x.toNat : Int) := by omega
                obtain ⟨y, hy⟩ : ∃ y : Nat, x.toNat = y := ⟨_, rfl⟩
                rw [hy] at e3 ⊢
                rw [e3, show (256 : Nat) ^ q = 2 ^ (8 * q) by rw [Nat.pow_mul]]
                have e4 : ((y : Int) / 2 ^ (8 * q) % 256) = ((y / 2 ^ (8 * q) % 256 : Nat) : Int) := by simp
                rw [e4, Int.toNat_natCast]
                omega
              rw [e2, take_snoc hd, ← List.append_assoc, e5]
            have lb5 : n2 ≤ 140000090000010 := by
              rw [HN4.out, List.length_append, ← HN3.out]
              have : ((digs x.toNat).take (m - (q + 1))).length ≤ m := by simp; omega
              omega
            go_wp2_with (at_builtin; refine appG elB w _ (HX4.out.alloc _) _ _ (by rfl) (by rfl) n2 _ _ [UInt8.ofNat z.toNat] (by rfl) (HO4.out.alloc _) HN4.out (some ⟨_, 0, none⟩) 1 1 (by rfl) rfl (Rb.new1 _ z hz2 _ rfl) (by rw [← HN4.out]; simp; omega) ?_; intro A5 c5 w5 o5 x5)
            have HN5 : Hid (n2 + 1 = (O ++ (digs x.toNat).take (m - q)).length) := by show _ = _; rw [E.out, List.length_append, ← HN4.out]; rfl
            rw [← E.out] at o5
            replace o5 := Lib.hid o5; replace x5 := Lib.hid x5
            clear hz HN4 HO4 HX4 E
            go_wp2
            go_roundw
            case rel => exact ⟨q, n2 + 1, A5, c5, by omega, rfl, rfl, HN5, o5, x5⟩
            case measure => simp [intOf]
    · obtain rfl : k = l.length := by omega
      rw [List.take_length] at HN HO HP
      obtain ⟨rfl, rfl⟩ := h0.out HP.out
      go_wp2_with fail
      go_ret2
      have hn := HN.out
      subst hn
      exact ⟨A2, c2, rfl, Rw.own elB HO.out, HX.out, HO.out⟩
theorem pPutY {w : World} {A B : Option Addr} {b : List UInt8} {l : List Int} (h : Rb w A b) (hl : Rn w B l) (hb : b.length ≤ 140000000000000) (ll : l.length ≤ 10000000) (h64 : ∀ n ∈ l, B64 n) (c d : Nat) (hp : ∀ n ∈ l, 0 ≤ n) :
    Calls Try.prog 55 #[.slice A b.length c, .slice B l.length d] w (RetBE w (b ++ encZ l) 0) :=
  pPut0 h hl hb ll h64 c d _ _ (fun _ => ⟨rfl, rfl⟩) (fun ⟨n, hn, h⟩ => by have := hp n hn; omega)
theorem pPutN {w : World} {A B : Option Addr} {b : List UInt8} {l : List Int} (h : Rb w A b) (hl : Rn w B l) (hb : b.length ≤ 140000000000000) (ll : l.length ≤ 10000000) (h64 : ∀ n ∈ l, B64 n) (c d : Nat) (hp : ∃ n ∈ l, n < 0) :
    Calls Try.prog 55 #[.slice A b.length c, .slice B l.length d] w (RetBE w [] 50) :=
  pPut0 h hl hb ll h64 c d _ _ (fun h => by obtain ⟨n, hn, h1⟩ := hp; have := h n hn; omega) (fun _ => ⟨rfl, rfl⟩)
end Go.Proofs.Ytmbjbbflhlndcaa
