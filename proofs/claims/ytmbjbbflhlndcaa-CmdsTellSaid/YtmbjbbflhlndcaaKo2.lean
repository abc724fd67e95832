/-
  lumperref24: Write, Read.
-/
import Derived.Test.YtmbjbbflhlndcaaKm2
import Derived.Test.YtmbjbbflhlndcaaKn2
namespace Go.Proofs.Ytmbjbbflhlndcaa
open Go.RowKit BigFrame
set_option linter.unusedVariables false
set_option linter.unusedSimpArgs false

set_option maxRecDepth 100000 in
set_option maxHeartbeats 2000000 in
theorem rMWrite0 {w : World} {A : Option Addr} {l : List Cm} (h : Rc w A l) (h64 : ∀ c ∈ l, Cm64 c) (hb : (encL l).length ≤ 90000000) (hl : l.length ≤ 1000000) (cb : Nat) (R : List UInt8) (r : Int)
    (h1 : (∀ c ∈ l, plainC c = true) → R = encL l ∧ r = 0) (h0 : (∃ c ∈ l, plainC c = false) → R = [] ∧ r = 240) :
    Calls Try.prog 24 #[.slice A l.length cb] w (RetBE w R r) := by
  replace h := Lib.hid h; replace h1 := Lib.hid h1; replace h0 := Lib.hid h0; replace h64 := Lib.hid h64; replace hb := Lib.hid hb
  go_enter Try.func24, Try.ntmps24
  go_wp2_with fail
  go_loopw [4, 5] (fun v i wr => ∃ (k n : Nat) (A2 : Option Addr) (c2 : Nat), k ≤ l.length ∧ i = .int .i64 k ∧ v = .slice A2 n c2 ∧ Hid (n = (encL (l.take k)).length) ∧ Hid (wr.ownsRow w.heap.size 5 1 (.slice A2 n c2) n (flat encB (encL (l.take k)))) ∧ Hid (Rb wr A2 (encL (l.take k))) ∧ Hid (Ext w wr) ∧ Hid (∀ x ∈ l.take k, plainC x = true)) (fun _ i _ => l.length - (intOf i).toNat)
  case atStart => exact ⟨0, 0, none, 0, Nat.zero_le _, rfl, rfl, rfl, own_nilG _ _, Rw.nil, Ext.refl w, by show ∀ x ∈ _, _; simp⟩
  case round =>
    obtain ⟨k, n, A2, c2, hk, rfl, rfl, HN, HO, HR, HX, HP⟩ := hrel
    by_cases hlt : k < l.length
    · obtain ⟨b0, off, c, rfl, hc, hr⟩ := Rc.range h.out HX.out hlt
      have c64 := Lib.hid (h64.out c (List.mem_of_getElem? hc.out))
      have lb : (encL (l.take k)).length ≤ 100000000 := Nat.le_trans (Nat.le_trans (encL_take_le l k) hb.out) (by decide)
      have q3 : (k : Int) < (l.length : Int) := by omega
      have q4 : (0 : Int) ≤ (k : Int) := by omega
      have hlt2 := Lib.hid hlt
      have hn := HN.out
      subst hn
      obtain ⟨C, hC⟩ : ∃ C, encC c = C := ⟨_, rfl⟩
      have sC : Hid ((Try.prog.info? 27).map (·.size) = some C.length) := by show _ = _; rw [← hC]; exact sizeC
      rw [hC] at hr
      replace hC := Lib.hid hC
      go_wp2_with (first | (refine wpList_load_mid rfl 27 _ rfl b0 (off + k * 16) (by rfl) C _ hr.out Try.underlying27 rfl sC.out ?_))
      have hbs := HX.out.size
      clear hr sC
      cases hp : plainC c
      · obtain ⟨rfl, rfl⟩ := h0.out ⟨c, List.mem_of_getElem? hc.out, hp⟩
        have kc := rMPutN HR.out lb c2 c c64.out hp
        rw [hC.out] at kc
        refine kc.mono ?_
        rintro e w3 ⟨A3, c3, rfl, r3, x3, o3⟩
        replace r3 := Lib.hid r3; replace x3 := Lib.hid x3; replace o3 := Lib.hid o3
        clear hp HP kc hC
        go_wp2_with fail
        go_ret2
        exact ⟨none, 0, rfl, Rw.nil, HX.out.trans x3.out, own_nilG _ _⟩
      · have kc := rMPutY HR.out lb c2 c c64.out hp
        rw [hC.out] at kc
        refine kc.mono ?_
        rintro e w3 ⟨A3, c3, rfl, r3, x3, o3⟩
        have E : Hid (encL (l.take k) ++ encM c = encL (l.take (k + 1))) := by show _ = _; rw [take_snoc hc.out, encL_snoc]
        rw [E.out] at r3 o3
        rw [E.out]
        have HP2 : Hid (∀ x ∈ l.take (k + 1), plainC x = true) := by
          show ∀ y ∈ _, _
          rw [take_snoc hc.out]
          intro y hy
          rcases List.mem_append.1 hy with hy | hy
          · exact HP.out y hy
          · simp at hy; subst hy; exact hp
        have o4 := Lib.hid (own_base o3 hbs)
        replace r3 := Lib.hid r3
        have X3 := Lib.hid (HX.out.trans x3)
        obtain ⟨N, hN⟩ : ∃ N, (encL (l.take (k + 1))).length = N := ⟨_, rfl⟩
        rw [hN] at o4
        rw [hN]
        have hN2 : Hid (N = (encL (l.take (k + 1))).length) := hN.symm
        clear hp HP x3 o3 E hN kc hC hbs
        go_wp2
        go_roundw
        case rel => exact ⟨k + 1, N, A3, c3, hlt2.out, by go_num, rfl, hN2, o4, r3, X3, HP2⟩
        case measure => have := hlt2.out; simp [intOf]; omega
    · obtain rfl : k = l.length := by omega
      rw [List.take_length] at HN HO HR HP
      obtain ⟨rfl, rfl⟩ := h1.out HP.out
      go_wp2_with fail
      go_ret2
      have hn := HN.out
      subst hn
      exact ⟨A2, c2, rfl, HR.out, HX.out, HO.out⟩
theorem rMWriteY {w : World} {A : Option Addr} {l : List Cm} (h : Rc w A l) (h64 : ∀ c ∈ l, Cm64 c) (hb : (encL l).length ≤ 90000000) (hl : l.length ≤ 1000000) (cb : Nat) (hp : ∀ c ∈ l, plainC c = true) :
    Calls Try.prog 24 #[.slice A l.length cb] w (RetBE w (encL l) 0) :=
  rMWrite0 h h64 hb hl cb _ _ (fun _ => ⟨rfl, rfl⟩) (fun ⟨c, hc, h⟩ => by rw [hp c hc] at h; cases h)
theorem rMWriteN {w : World} {A : Option Addr} {l : List Cm} (h : Rc w A l) (h64 : ∀ c ∈ l, Cm64 c) (hb : (encL l).length ≤ 90000000) (hl : l.length ≤ 1000000) (cb : Nat) (hp : ∃ c ∈ l, plainC c = false) :
    Calls Try.prog 24 #[.slice A l.length cb] w (RetBE w [] 240) :=
  rMWrite0 h h64 hb hl cb _ _ (fun h => by obtain ⟨c, hc, h2⟩ := hp; rw [h c hc] at h2; cases h2) (fun _ => ⟨rfl, rfl⟩)

set_option maxRecDepth 100000 in
set_option maxHeartbeats 2000000 in
theorem rMRead {w : World} {A : Option Addr} {b : List UInt8} (h : Rb w A b) (hb : b.length ≤ 1000000) (cb : Nat) (hc : b.length ≤ cb) (hc2 : cb ≤ maxLen) :
    Calls Try.prog 26 #[.slice A b.length cb] w (RetRd w (decL b.length b)) := by
  replace h := Lib.hid h; replace hb := Lib.hid hb
  have hold : Hid (Old w A b) := Old.of h.out
  obtain ⟨O, hO⟩ : ∃ O, decL b.length b = O := ⟨_, rfl⟩
  rw [hO]
  replace hO := Lib.hid hO; replace hc := Lib.hid hc; replace hc2 := Lib.hid hc2
  go_enter Try.func26, Try.ntmps26
  go_wp2_with fail
  go_loopw [0, 4] (fun v o wr => ∃ (B : Option Addr) (r : List UInt8) (c1 : Nat) (D : List Cm) (n f : Nat) (A2 : Option Addr) (c2 : Nat), v = .slice B r.length c1 ∧ o = .slice A2 n c2 ∧ Hid (n = D.length) ∧ Hid (r.length ≤ f) ∧ Hid (D.length + r.length ≤ b.length) ∧ Hid (r.length ≤ c1) ∧ Hid (c1 ≤ maxLen) ∧ Hid (O = (decL f r).map (D ++ ·)) ∧ Hid (Rb wr B r) ∧ Hid (wr.ownsRow w.heap.size 27 16 (.slice A2 n c2) n (flat encC D)) ∧ Hid (Rc wr A2 D) ∧ Hid (Ext w wr) ∧ Hid (Old w B r)) (fun v _ _ => lenV v)
  case atStart => exact ⟨A, b, cb, [], 0, b.length, none, 0, rfl, rfl, rfl, Nat.le_refl _, by show _ ≤ _; simp, hc.out, hc2.out, by show _ = _; rw [← hO.out]; simp, h.out, own_nilG _ _, Rw.nil, Ext.refl w, hold.out⟩
  case round =>
    obtain ⟨B, r, c1, D, n, f, A2, c2, rfl, rfl, HN, HF, HD, hc3, hc4, HO, HB, HW, HR, HX, HOl⟩ := hrel
    by_cases hr : 0 < r.length
    · obtain ⟨g, rfl⟩ : ∃ g, f = g + 1 := ⟨f - 1, by have := HF.out; omega⟩
      have HO2 := HO.out
      rw [decL_step hr] at HO2
      have hrb : r.length ≤ 100000000 := by have := HD.out; have := hb.out; omega
      have kT := Lib.hid (rMTake HB.out hrb c1 hc3.out hc4.out)
      replace HO2 := Lib.hid HO2
      have q1 : decide ((r.length : Int) > 0) = true := decide_eq_true (by omega)
      clear HO
      go_wp2_with fail
      refine kT.out.mono ?_
      rintro e w3 ⟨x3, hres⟩
      cases hd : decC r with
      | none =>
        rw [hd] at hres
        simp only at hres
        subst hres
        have hOn : O = none := by rw [HO2.out, hd]; rfl
        subst hOn
        have X4 := Lib.hid ((HX.out.trans x3).alloc (.cells (encC cm0).toArray 27))
        clear hd HO2 kT x3 HF HD
        go_wp2_with (first | (refine store_newE rfl 27 _ _ (by rfl) w3 w3.heap.size rfl (encC cm0).toArray (encC cm0).toArray 27 (by rfl) (by rfl) (by rfl) sizeC rfl (cells_okC cm0) ?_))
        go_ret2
        exact ⟨X4.out, rfl⟩
      | some q =>
        obtain ⟨c, t⟩ := q
        rw [hd] at hres
        simp only at hres
        obtain ⟨A3, c3, rfl, hRt, hc3', hc4', hNt⟩ := hres
        obtain ⟨hpl, h64, hrt⟩ := decC_some hd
        have hp := encM_pos hpl h64
        have hlen : r.length = (encM c).length + t.length := by rw [hrt, List.length_append]
        have HO3 : Hid (O = (decL g t).map ((D ++ [c]) ++ ·)) := by
          show _ = _
          rw [HO2.out, hd]
          simp only [Option.map_map]
          congr 1
          funext l
          simp
        have HOl2 : Hid (Old w A3 t) := by
          show Old w A3 t
          rcases HOl.out with e | h
          · subst e; simp at hr
          · refine .inr fun a ha => ?_
            obtain ⟨a', ha', e⟩ := hNt a ha
            have := h a' ha'
            omega
        obtain ⟨C, hC⟩ : ∃ C, encC c = C := ⟨_, rfl⟩
        have sC2 : Hid ((Try.prog.info? 27).map (·.size) = some C.toArray.size) := by show _ = _; rw [← hC]; exact sizeC
        have oC : Hid (C.toArray.all (·.oneCell') = true) := by show _ = _; rw [← hC]; exact cells_okC c
        have zC : Hid ((encC cm0).toArray.size = C.toArray.size) := by show _ = _; rw [← hC]; rfl
        have HB4 := Lib.hid (Bx.new w3 C 27)
        rw [hC]
        replace hC := Lib.hid hC
        have X4 := Lib.hid ((HX.out.trans x3).alloc (.cells C.toArray 27))
        have W4 := Lib.hid (own_below HW.out (x3.alloc (.cells C.toArray 27)))
        have lC : Hid (C.toArray = #[.int .i64 c.kind, .int .i64 c.fk, .int .i64 c.ev.id, .int .i64 c.ev.worker, .int .i64 c.ev.at_, .int .i64 c.ev.kind, .int .i64 c.ev.fr, .int .i64 c.ev.to, .int .i64 c.ev.element, .int .i64 c.ev.units, .int .i64 c.ev.cls, .int .i64 c.ev.gear, .int .i64 c.ev.code, .int .i64 c.worker, .int .i64 c.week, .int .i64 c.tear]) := by show _ = _; rw [← hC.out]; rfl
        have hRt4 := Lib.hid (hRt.alloc (.cells C.toArray 27))
        clear hRt
        go_wp2_with (first | (refine store_newE rfl 27 _ _ (by rfl) w3 w3.heap.size rfl (encC cm0).toArray C.toArray 27 (by rfl) (by rfl) (by rfl) sC2.out zC.out oC.out ?_) | (refine load_boxE rfl 27 _ (by rfl) w3.heap.size (by rfl) C #[.int .i64 c.kind, .int .i64 c.fk, .int .i64 c.ev.id, .int .i64 c.ev.worker, .int .i64 c.ev.at_, .int .i64 c.ev.kind, .int .i64 c.ev.fr, .int .i64 c.ev.to, .int .i64 c.ev.element, .int .i64 c.ev.units, .int .i64 c.ev.cls, .int .i64 c.ev.gear, .int .i64 c.ev.code, .int .i64 c.worker, .int .i64 c.week, .int .i64 c.tear] lC.out 27 HB4.out _ Try.underlying27 rfl sizeC ?_) | (at_builtin; refine appGB elC w _ (X4.out.alloc _) _ _ (by rfl) (by rfl) n _ D [c] (by rfl) (own_below W4.out ((Ext.refl _).alloc _)) HN.out (some ⟨w3.heap.size + 1, 0, none⟩) 1 1 (by rfl) rfl (Rw.new_at elC (w3.alloc (.cells C.toArray 27)) [c] 27 (w3.heap.size + 1) (by simp)) (by have := HD.out; have := hb.out; simp; omega) ?_; intro A5 c5 w5 o5 x5 g5 _))
        have hR5 : Hid (Rb w5 A3 t) := by
          show Rb w5 A3 t
          rcases HOl2.out with e | h
          · rw [e]; exact Rw.nil
          · exact Rw.moved (hRt4.out.alloc _) g5 (fun blk off hA hb => by
              have h1 := h _ hA
              have h2 := (HW.out.lt blk hb.symm).1
              simp only at h1
              omega)
        refine ⟨⟨A3, t, c3, D ++ [c], n + 1, g, A5, c5, rfl, rfl, ?_, ?_, ?_, hc3', Nat.le_trans hc4' hc4.out, HO3, hR5, o5, ?_, x5, HOl2⟩, ?_⟩
        · show _ = _; rw [List.length_append, ← HN.out]; rfl
        · show _ ≤ _; have := HF.out; omega
        · show _ ≤ _; have := HD.out; rw [List.length_append]; simp; omega
        · have e : n + 1 = (D ++ [c]).length := by rw [List.length_append, ← HN.out]; rfl
          rw [e] at o5
          exact Rw.own elC o5
        · show t.length < r.length; omega
    · have hr0 : r = [] := List.eq_nil_of_length_eq_zero (by omega)
      subst hr0
      have hOs : O = some D := by rw [HO.out]; cases f <;> simp [decL]
      subst hOs
      have q1 : decide ((([] : List UInt8).length : Int) > 0) = false := by simp
      clear HO
      go_wp2_with fail
      go_ret2
      have hn := HN.out
      subst hn
      exact ⟨HX.out, A2, c2, rfl, HR.out, HW.out⟩
end Go.Proofs.Ytmbjbbflhlndcaa
