/-
  lumperlaw24: awake; commands' bytes and back: plain theory.
-/
import Derived.Test.YtmbjbbflhlndcaaKn2
namespace Go.Proofs.Ytmbjbbflhlndcaa
open Go.RowKit BigFrame
set_option linter.unusedVariables false
set_option linter.unusedSimpArgs false

theorem encL_cons (c : Cm) (l : List Cm) : encL (c :: l) = encM c ++ encL l := by simp [encL]
theorem encL_append (l m : List Cm) : encL (l ++ m) = encL l ++ encL m := by simp [encL]
theorem decL_app {l : List Cm} (h : ∀ c ∈ l, plainC c = true) (h64 : ∀ c ∈ l, Cm64 c) : ∀ (n : Nat) (r : List UInt8), (encL l ++ r).length ≤ n → decL n (encL l ++ r) = (decL (n - l.length) r).map (l ++ ·) := by
  induction l with
  | nil => intro n r hn; simp [encL]
  | cons c l ih =>
    intro n r hn
    have hp := encM_pos (h c (by simp)) (h64 c (by simp))
    rw [encL_cons, List.append_assoc] at hn ⊢
    rw [List.length_append] at hn
    obtain ⟨m, rfl⟩ : ∃ m, n = m + 1 := ⟨n - 1, by omega⟩
    rw [decL_step (by rw [List.length_append]; omega), decC_enc (h c (by simp)) (h64 c (by simp))]
    simp only
    rw [ih (fun x hx => h x (by simp [hx])) (fun x hx => h64 x (by simp [hx])) m r (by omega), List.length_cons, Nat.add_sub_add_right, Option.map_map]
    rfl
theorem decL_enough : ∀ (n m : Nat) (b : List UInt8), b.length ≤ n → b.length ≤ m → decL n b = decL m b := by
  intro n
  induction n with
  | zero =>
    intro m b hn hm
    have : b = [] := List.eq_nil_of_length_eq_zero (by omega)
    subst this
    cases m <;> rfl
  | succ n ih =>
    intro m b hn hm
    cases b with
    | nil => cases m <;> rfl
    | cons x b =>
      obtain ⟨m, rfl⟩ : ∃ k, m = k + 1 := ⟨m - 1, by simp at hm; omega⟩
      rw [decL_step (by simp), decL_step (by simp)]
      cases hd : decC (x :: b) with
      | none => rfl
      | some q =>
        obtain ⟨c, r⟩ := q
        obtain ⟨hpl, h64, hb⟩ := decC_some hd
        have hp := encM_pos hpl h64
        have hl : (x :: b).length = (encM c).length + r.length := by rw [hb, List.length_append]
        simp only
        rw [ih m r (by omega) (by omega)]
theorem decL_enc {l : List Cm} (h : ∀ c ∈ l, plainC c = true) (h64 : ∀ c ∈ l, Cm64 c) : decL (encL l).length (encL l) = some l := by
  have := decL_app h h64 (encL l).length [] (by simp)
  rw [List.append_nil] at this
  rw [this]
  cases (encL l).length - l.length <;> simp [decL]
theorem decL_some : ∀ (n : Nat) {b : List UInt8} {l : List Cm}, decL n b = some l → (∀ c ∈ l, plainC c = true) ∧ (∀ c ∈ l, Cm64 c) ∧ encL l = b := by
  intro n
  induction n with
  | zero =>
    intro b l h
    cases b with
    | nil => simp [decL] at h; subst h; exact ⟨by simp, by simp, rfl⟩
    | cons x b => simp [decL] at h
  | succ n ih =>
    intro b l h
    cases b with
    | nil => simp [decL] at h; subst h; exact ⟨by simp, by simp, rfl⟩
    | cons x b =>
      rw [decL_step (by simp)] at h
      cases hd : decC (x :: b) with
      | none => rw [hd] at h; cases h
      | some q =>
        obtain ⟨c, r⟩ := q
        rw [hd] at h
        simp only at h
        cases hr : decL n r with
        | none => rw [hr] at h; cases h
        | some m =>
          rw [hr] at h
          simp only [Option.map_some] at h
          cases h
          obtain ⟨a1, a2, a3⟩ := ih hr
          obtain ⟨hpl, h64, hb⟩ := decC_some hd
          refine ⟨?_, ?_, ?_⟩
          · intro y hy
            rcases List.mem_cons.1 hy with rfl | hy
            · exact hpl
            · exact a1 y hy
          · intro y hy
            rcases List.mem_cons.1 hy with rfl | hy
            · exact h64
            · exact a2 y hy
          · rw [encL_cons, a3, hb]

theorem load_midG {ops : Array Oper} {rest : List Oper} {o : Oper} {a : Act} {w : World} {Q : Exit → Act → World → Prop} (hgd : Region.wanted o (yielded ops a.tmps) = true) (ty : TypeId) (x : Operand) (ho : o.op = .load ty x)
    (b off : Nat) (hx : a.eval x = .pointer (some ⟨b, off, none⟩)) (cs : List Value) (d : TypeDesc) (hc : w.rangeAt b off cs)
    (hu : Try.prog.underlying ty = some d) (hd : d.isRow = true) (hi : (Try.prog.info? ty).map (·.size) = some cs.length)
    (h : wpList Try.prog ops Q rest (a.put o.dst (.agg cs.toArray)) w) : wpList Try.prog ops Q (o :: rest) a w := by
  refine wpList_step fun K hK => ?_
  rw [if_pos hgd]
  exact wp_load_mid ty x ho b off hx cs d hc hu hd hi (hK _ _ h)
def ca24 : Cm := ⟨5, 0, ev0, 0, 3, 2⟩
def cb24 : Cm := ⟨2, 2, ⟨7, 0, 0, 0, 0, 0, 0, 0, 0, 0, 0⟩, 0, 0, 0⟩
def cc24 : Cm := ⟨8, 0, ev0, 0, 0, 0⟩
def l24 : List Cm := [ca24, cb24, cc24]
def by24 : List UInt8 := [1, 5, 1, 3, 1, 2, 1, 2, 1, 2, 1, 7, 0, 1, 8, 0]
theorem p24 : ∀ c ∈ l24, plainC c = true := by decide
theorem b64_lit {n : Int} (h : -1000 ≤ n ∧ n ≤ 1000) : B64 n := by unfold B64; omega
theorem ev64_lit {e : Ev} (h : (-1000 ≤ e.id ∧ e.id ≤ 1000) ∧ (-1000 ≤ e.worker ∧ e.worker ≤ 1000) ∧ (-1000 ≤ e.at_ ∧ e.at_ ≤ 1000) ∧ (-1000 ≤ e.kind ∧ e.kind ≤ 1000) ∧ (-1000 ≤ e.fr ∧ e.fr ≤ 1000) ∧ (-1000 ≤ e.to ∧ e.to ≤ 1000) ∧ (-1000 ≤ e.element ∧ e.element ≤ 1000) ∧ (-1000 ≤ e.units ∧ e.units ≤ 1000) ∧ (-1000 ≤ e.cls ∧ e.cls ≤ 1000) ∧ (-1000 ≤ e.gear ∧ e.gear ≤ 1000) ∧ (-1000 ≤ e.code ∧ e.code ≤ 1000)) : Ev64 e := by
  obtain ⟨h0, h1, h2, h3, h4, h5, h6, h7, h8, h9, h10⟩ := h
  exact ⟨b64_lit h0, b64_lit h1, b64_lit h2, b64_lit h3, b64_lit h4, b64_lit h5, b64_lit h6, b64_lit h7, b64_lit h8, b64_lit h9, b64_lit h10⟩
theorem cm64_lit {c : Cm} (he : Ev64 c.ev) (h : (-1000 ≤ c.kind ∧ c.kind ≤ 1000) ∧ (-1000 ≤ c.fk ∧ c.fk ≤ 1000) ∧ (-1000 ≤ c.worker ∧ c.worker ≤ 1000) ∧ (-1000 ≤ c.week ∧ c.week ≤ 1000) ∧ (-1000 ≤ c.tear ∧ c.tear ≤ 1000)) : Cm64 c := by
  obtain ⟨h0, h1, h2, h3, h4⟩ := h
  exact ⟨b64_lit h0, b64_lit h1, he, b64_lit h2, b64_lit h3, b64_lit h4⟩
theorem c64_a : Cm64 ca24 := cm64_lit ev0_64 (by decide)
theorem c64_b : Cm64 cb24 := cm64_lit (ev64_lit (by decide)) (by decide)
theorem c64_c : Cm64 cc24 := cm64_lit ev0_64 (by decide)
theorem h64_24 : ∀ c ∈ l24, Cm64 c := by
  intro c hc
  simp [l24] at hc
  rcases hc with rfl | rfl | rfl
  · exact c64_a
  · exact c64_b
  · exact c64_c
theorem e24 : encL l24 = by24 := by decide +kernel
def cx24 : Cm := ⟨8, 0, ev0, 0, 1, 0⟩
theorem cm0_64 : Cm64 cm0 := cm64_lit ev0_64 (by decide)

theorem own_cap {w : World} {base e size n cap : Nat} {A : Option Addr} {xs : List Value} (h : w.ownsRow base e size (.slice A n cap) n xs) : n ≤ cap ∧ cap ≤ maxLen := by
  obtain ⟨A', c', hv, h1, h2⟩ := own_form h
  cases hv
  exact ⟨h1, h2⟩
set_option maxRecDepth 100000 in
set_option maxHeartbeats 2000000 in
theorem awake24 (w : World) : Calls Try.prog 18 #[] w (RetB w true) := by
  go_enter Try.func18, Try.ntmps18
  go_wp2_with fail
  have R1 : Rc (w.alloc (.cells (flat encC l24).toArray 27)) (some ⟨w.heap.size, 0, none⟩) l24 := Rw.new_at elC w l24 27 w.heap.size rfl
  have X1 : Ext w (w.alloc (.cells (flat encC l24).toArray 27)) := (Ext.refl w).alloc _
  refine (pMWriteY R1 h64_24 (by rw [e24]; decide) (by decide) 3 p24).mono ?_
  rintro e w2 ⟨A2, c2, rfl, r2, x2, o2⟩
  rw [e24] at r2 o2 ⊢
  have R2 := Lib.hid (R1.ext x2); have X2 := Lib.hid (X1.trans x2); have B2 := Lib.hid r2
  have hc2 := own_cap o2
  clear R1 X1 x2 r2 o2
  obtain ⟨b, hb⟩ : ∃ b, by24 = b := ⟨_, rfl⟩
  have hdec : decL b.length b = some l24 := by rw [← hb, ← e24]; exact decL_enc p24 h64_24
  have hbl : b.length ≤ 100 := by rw [← hb]; decide
  have hbe : (b == [1, 5, 1, 3, 1, 2, 1, 2, 1, 2, 1, 7, 0, 1, 8, 0]) = true := by rw [← hb]; decide
  rw [hb] at B2 hc2 ⊢
  have kR := Lib.hid (pMRead B2.out (by omega) c2 hc2.1 hc2.2)
  rw [hdec] at kR
  replace hb := Lib.hid hb; replace hdec := Lib.hid hdec; replace hbe := Lib.hid hbe
  go_wp2_with fail
  refine kR.out.mono ?_
  rintro e w3 ⟨x3, A3, c3, rfl, r3, o3⟩
  have R3 := Lib.hid (R2.out.ext x3); have X3 := Lib.hid (X2.out.trans x3); have B3 := Lib.hid (B2.out.ext x3); have S3 := Lib.hid r3
  clear x3 r3 o3 R2 X2 B2 kR
  go_wp2_with fail
  refine (pMPutN (b := []) Rw.nil (by decide) 0 cx24 (cm64_lit ev0_64 (by decide)) (by decide)).mono ?_
  rintro e w4 ⟨A4, c4, rfl, _, x4, _⟩
  have R4 := Lib.hid (R3.out.ext x4); have X4 := Lib.hid (X3.out.trans x4); have B4 := Lib.hid (B3.out.ext x4); have S4 := Lib.hid (S3.out.ext x4)
  clear x4 R3 X3 B3 S3
  go_wp2_with fail
  refine (pMTake (A := none) (b := []) Rw.nil (by decide) 0 (by decide) (by decide)).mono ?_
  rintro e w5 ⟨x5, hr5⟩
  have hr6 : e = .returned (.tuple #[.agg (encC cm0).toArray, .slice none 0 0, .int .i64 240]) := hr5
  subst hr6
  clear hr5
  have R5 := Lib.hid ((R4.out.ext x5).alloc (.cells (encC cm0).toArray 27)); have X5 := Lib.hid ((X4.out.trans x5).alloc (.cells (encC cm0).toArray 27)); have B5 := Lib.hid ((B4.out.ext x5).alloc (.cells (encC cm0).toArray 27)); have S5 := Lib.hid ((S4.out.ext x5).alloc (.cells (encC cm0).toArray 27))
  clear x5 R4 X4 B4 S4
  have hs5 := run_str B5.out c2
  have q5 := hbe.out
  go_wp2_with (first | (refine store_newE rfl 27 _ _ (by rfl) w5 w5.heap.size rfl (encC cm0).toArray (encC cm0).toArray 27 (by rfl) (by rfl) (by rfl) sizeC rfl (cells_okC cm0) ?_))
  refine (rSameC S5.out R5.out (by decide) c3 3 (by decide)).mono ?_
  rintro e w6 ⟨rfl, x6⟩
  have X6 := Lib.hid (X5.out.trans x6)
  obtain ⟨b0, o0, cc, hA, hx, hr⟩ := Rw.range R5.out x6 (j := 0) (by decide)
  cases hA
  have hcc : ca24 = cc := by have := hx.out; simpa [l24] using this
  subst hcc
  have hd : decide (l24 = l24) = true := decide_eq_true rfl
  rw [hd]
  have hr0 : Hid (w6.rangeAt w.heap.size 0 (encC ca24)) := by have := hr.out; rw [Nat.zero_add, Nat.zero_mul] at this; exact this
  clear hs5 q5 hd R5 X5 B5 S5 x6 hr
  go_wp2_with (first | (refine load_midG (by rfl) 27 _ rfl w.heap.size 0 (by rfl) (encC ca24) _ hr0.out Try.underlying27 rfl sizeC ?_))
  refine (pCheckC ca24 c64_a _).mono ?_
  rintro e w7 ⟨rfl, x7⟩
  have hp1 : plainC ca24 = true := by decide
  rw [hp1]
  go_wp2_with fail
  refine (pCheckC cm0 cm0_64 _).mono ?_
  rintro e w8 ⟨rfl, x8⟩
  have hp2 : plainC cm0 = false := by decide
  rw [hp2]
  go_wp2_with fail
  go_ret
  exact ⟨rfl, (X6.out.trans x7).trans x8⟩
end Go.Proofs.Ytmbjbbflhlndcaa
