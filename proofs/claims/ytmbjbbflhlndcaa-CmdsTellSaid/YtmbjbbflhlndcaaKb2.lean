/-
  cmds.Write.
-/
import Derived.Test.YtmbjbbflhlndcaaJz
namespace Go.Proofs.Ytmbjbbflhlndcaa
open Go.RowKit BigFrame
set_option linter.unusedVariables false
set_option linter.unusedSimpArgs false

/-- Commands' bytes. -/
def encL (l : List Cm) : List UInt8 := l.flatMap encM
theorem encL_snoc (l : List Cm) (c : Cm) : encL (l ++ [c]) = encL l ++ encM c := by simp [encL]
theorem encL_take_le (l : List Cm) (k : Nat) : (encL (l.take k)).length ≤ (encL l).length := by
  have : encL l = encL (l.take k) ++ encL (l.drop k) := by unfold encL; rw [← List.flatMap_append, List.take_append_drop]
  rw [this, List.length_append]; omega
theorem Rc.range {w w' : World} {A : Option Addr} {l : List Cm} (h : Rc w A l) (hX : Ext w w') {j : Nat} (hj : j < l.length) :
    ∃ b off c, A = some ⟨b, off, none⟩ ∧ Hid (l[j]? = some c) ∧ Hid (w'.rangeAt b (off + j * 16) (encC c)) := by
  obtain ⟨b, off, c, hA, hb, hx, hc⟩ := (Rd.below h hX).at_ hj
  exact ⟨b, off, c, hA, hx, fun i u hu => hc i u hu⟩

set_option maxRecDepth 100000 in
set_option maxHeartbeats 2000000 in
theorem pMWrite0 {w : World} {A : Option Addr} {l : List Cm} (h : Rc w A l) (h64 : ∀ c ∈ l, Cm64 c) (hb : (encL l).length ≤ 139999999999000) (hl : l.length ≤ 1100000000000) (cb : Nat) (R : List UInt8) (r : Int)
    (h1 : (∀ c ∈ l, plainC c = true) → R = encL l ∧ r = 0) (h0 : (∃ c ∈ l, plainC c = false) → R = [] ∧ r = 240) :
    Calls Try.prog 23 #[.slice A l.length cb] w (RetBE w R r) := by
  replace h := Lib.hid h; replace h1 := Lib.hid h1; replace h0 := Lib.hid h0; replace h64 := Lib.hid h64; replace hb := Lib.hid hb
  go_enter Try.func23, Try.ntmps23
  go_wp2_with fail
  go_loopw [4, 11] (fun v i wr => ∃ (k n : Nat) (A2 : Option Addr) (c2 : Nat), k ≤ l.length ∧ i = .int .i64 k ∧ v = .slice A2 n c2 ∧ Hid (n = (encL (l.take k)).length) ∧ Hid (wr.ownsRow w.heap.size 5 1 (.slice A2 n c2) n (flat encB (encL (l.take k)))) ∧ Hid (Rb wr A2 (encL (l.take k))) ∧ Hid (Ext w wr) ∧ Hid (∀ x ∈ l.take k, plainC x = true)) (fun _ i _ => l.length - (intOf i).toNat)
  case atStart => exact ⟨0, 0, none, 0, Nat.zero_le _, rfl, rfl, rfl, own_nilG _ _, Rw.nil, Ext.refl w, by show ∀ x ∈ _, _; simp⟩
  case round =>
    obtain ⟨k, n, A2, c2, hk, rfl, rfl, HN, HO, HR, HX, HP⟩ := hrel
    by_cases hlt : k < l.length
    · obtain ⟨b0, off, c, rfl, hc, hr⟩ := Rc.range h.out HX.out hlt
      have c64 := Lib.hid (h64.out c (List.mem_of_getElem? hc.out))
      have lb : (encL (l.take k)).length ≤ 139999999999000 := Nat.le_trans (encL_take_le l k) hb.out
      have q3 : (k : Int) < (l.length : Int) := by omega
      have q4 : (0 : Int) ≤ (k : Int) := by omega
      have hlt2 := Lib.hid hlt
      have hn := HN.out
      subst hn
      obtain ⟨C, hC⟩ : ∃ C, encC c = C := ⟨_, rfl⟩
      have sC : Hid ((Try.prog.info? 27).map (·.size) = some C.length) := by show _ = _; rw [← hC]; exact sizeC
      have sC2 : Hid ((Try.prog.info? 27).map (·.size) = some C.toArray.size) := by show _ = _; rw [← hC]; exact sizeC
      have oC : Hid (C.toArray.all (·.oneCell') = true) := by show _ = _; rw [← hC]; exact cells_okC c
      have zC : Hid ((encC cm0).toArray.size = C.toArray.size) := by show _ = _; rw [← hC]; rfl
      rw [hC] at hr
      replace hC := Lib.hid hC
      have HB := Lib.hid (Bx.new wr C 27)
      go_wp2_with (first | (refine wpList_load_mid rfl 27 _ rfl b0 (off + k * 16) (by rfl) C _ hr.out Try.underlying27 rfl sC.out ?_) | (refine store_newE rfl 27 _ _ (by rfl) wr wr.heap.size rfl (encC cm0).toArray C.toArray 27 (by rfl) (by rfl) (by rfl) sC2.out zC.out oC.out ?_) | (refine load_boxE rfl 27 _ (by rfl) wr.heap.size (by rfl) C C.toArray rfl 27 HB.out _ Try.underlying27 rfl sC2.out ?_))
      have X2 := Lib.hid (HX.out.alloc (.cells C.toArray 27))
      have R2 := Lib.hid (HR.out.alloc (.cells C.toArray 27))
      have hbs := HX.out.size
      clear HB hr HO HR sC sC2 oC zC
      cases hp : plainC c
      · obtain ⟨rfl, rfl⟩ := h0.out ⟨c, List.mem_of_getElem? hc.out, hp⟩
        have kc := pMPutN R2.out lb c2 c c64.out hp
        rw [hC.out] at kc
        refine kc.mono ?_
        rintro e w3 ⟨A3, c3, rfl, r3, x3, o3⟩
        replace r3 := Lib.hid r3; replace x3 := Lib.hid x3; replace o3 := Lib.hid o3
        clear hp HP kc hC
        go_wp2_with fail
        go_ret2
        exact ⟨none, 0, rfl, Rw.nil, X2.out.trans x3.out, own_nilG _ _⟩
      · have kc := pMPutY R2.out lb c2 c c64.out hp
        rw [hC.out] at kc
        refine kc.mono ?_
        rintro e w3 ⟨A3, c3, rfl, r3, x3, o3⟩
        have E : Hid (encL (l.take k) ++ encM c = encL (l.take (k + 1))) := by show _ = _; rw [take_snoc hc.out, encL_snoc]
        rw [E.out] at r3 o3
        rw [E.out]
        have HP2 : Hid (∀ x ∈ l.take (k + 1), plainC x = true) := by
          show ∀ y ∈ _, _
          rw [take_snoc hc.out]
          intro y hy
          rcases List.mem_append.1 hy with hy | hy
          · exact HP.out y hy
          · simp at hy; subst hy; exact hp
        have hsz : w.heap.size ≤ (wr.alloc (.cells C.toArray 27)).heap.size := X2.out.size
        have o4 := Lib.hid (own_base o3 hsz)
        clear hsz
        replace r3 := Lib.hid r3
        have X3 := Lib.hid (X2.out.trans x3)
        obtain ⟨N, hN⟩ : ∃ N, (encL (l.take (k + 1))).length = N := ⟨_, rfl⟩
        rw [hN] at o4
        rw [hN]
        have hN2 : Hid (N = (encL (l.take (k + 1))).length) := hN.symm
        clear hp HP x3 o3 E R2 X2 hN kc hC
        go_wp2
        go_roundw
        case rel => exact ⟨k + 1, N, A3, c3, hlt2.out, by go_num, rfl, hN2, o4, r3, X3, HP2⟩
        case measure => have := hlt2.out; simp [intOf]; omega
    · obtain rfl : k = l.length := by omega
      rw [List.take_length] at HN HO HR HP
      obtain ⟨rfl, rfl⟩ := h1.out HP.out
      go_wp2_with fail
      go_ret2
      have hn := HN.out
      subst hn
      exact ⟨A2, c2, rfl, HR.out, HX.out, HO.out⟩
theorem pMWriteY {w : World} {A : Option Addr} {l : List Cm} (h : Rc w A l) (h64 : ∀ c ∈ l, Cm64 c) (hb : (encL l).length ≤ 139999999999000) (hl : l.length ≤ 1100000000000) (cb : Nat) (hp : ∀ c ∈ l, plainC c = true) :
    Calls Try.prog 23 #[.slice A l.length cb] w (RetBE w (encL l) 0) :=
  pMWrite0 h h64 hb hl cb _ _ (fun _ => ⟨rfl, rfl⟩) (fun ⟨c, hc, h⟩ => by rw [hp c hc] at h; cases h)
theorem pMWriteN {w : World} {A : Option Addr} {l : List Cm} (h : Rc w A l) (h64 : ∀ c ∈ l, Cm64 c) (hb : (encL l).length ≤ 139999999999000) (hl : l.length ≤ 1100000000000) (cb : Nat) (hp : ∃ c ∈ l, plainC c = false) :
    Calls Try.prog 23 #[.slice A l.length cb] w (RetBE w [] 240) :=
  pMWrite0 h h64 hb hl cb _ _ (fun h => by obtain ⟨c, hc, h2⟩ := hp; rw [h c hc] at h2; cases h2) (fun _ => ⟨rfl, rfl⟩)
end Go.Proofs.Ytmbjbbflhlndcaa
