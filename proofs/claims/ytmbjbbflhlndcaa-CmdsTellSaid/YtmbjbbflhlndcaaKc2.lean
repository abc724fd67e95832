/-
  cmds.Read.
-/
import Derived.Test.YtmbjbbflhlndcaaKb2
namespace Go.Proofs.Ytmbjbbflhlndcaa
open Go.RowKit BigFrame
set_option linter.unusedVariables false
set_option linter.unusedSimpArgs false

/-- The commands of bytes. -/
def decL : Nat → List UInt8 → Option (List Cm)
  | _, [] => some []
  | 0, _ :: _ => none
  | n + 1, x :: b => match decC (x :: b) with
    | none => none
    | some (c, r) => (decL n r).map (c :: ·)
def RetRd (w : World) (o : Option (List Cm)) (e : Ending) (w' : World) : Prop := Ext w w' ∧ match o with
  | none => e = .returned (.tuple #[.slice none 0 0, .int .i64 240])
  | some l => ∃ A cap, e = .returned (.tuple #[.slice A l.length cap, .int .i64 0]) ∧ Rc w' A l ∧ w'.ownsRow w.heap.size 27 16 (.slice A l.length cap) l.length (flat encC l)

theorem decL_step {n : Nat} {r : List UInt8} (hr : 0 < r.length) : decL (n + 1) r = match decC r with
    | none => none
    | some (c, t) => (decL n t).map (c :: ·) := by
  cases r with
  | nil => simp at hr
  | cons x r => rfl
theorem encM_pos {c : Cm} (h : plainC c = true) (h64 : Cm64 c) : 1 ≤ (encM c).length := (encM_len h h64).2
def lenV : Value → Nat
  | .slice _ n _ => n
  | _ => 0

theorem own_lt {w : World} {base e size n : Nat} {v : Value} {xs : List Value} (h : w.ownsRow base e size v n xs) {q : Nat} (hq : v.ownBlock = some q) : q < w.heap.size := by
  rcases h.2 with ⟨h0, _⟩ | ⟨g, cap, cur, hv, _, hh, _⟩
  · subst h0; simp [Value.ownBlock] at hq
  · subst hv
    simp [Value.ownBlock] at hq
    subst hq
    exact (Array.getElem?_eq_some_iff.1 hh).1

set_option maxRecDepth 100000 in
set_option maxHeartbeats 2000000 in
theorem pMRead {w : World} {A : Option Addr} {b : List UInt8} (h : Rb w A b) (hb : b.length ≤ 1000000) (cb : Nat) (hc : b.length ≤ cb) (hc2 : cb ≤ maxLen) :
    Calls Try.prog 25 #[.slice A b.length cb] w (RetRd w (decL b.length b)) := by
  replace h := Lib.hid h; replace hb := Lib.hid hb
  obtain ⟨O, hO⟩ : ∃ O, decL b.length b = O := ⟨_, rfl⟩
  rw [hO]
  replace hO := Lib.hid hO; replace hc := Lib.hid hc; replace hc2 := Lib.hid hc2
  go_enter Try.func25, Try.ntmps25
  go_wp2_with fail
  go_loopw [0, 2] (fun v o wr => ∃ (B : Option Addr) (r : List UInt8) (c1 : Nat) (D : List Cm) (n f : Nat) (A2 : Option Addr) (c2 : Nat), v = .slice B r.length c1 ∧ o = .slice A2 n c2 ∧ Hid (n = D.length) ∧ Hid (r.length ≤ f) ∧ Hid (D.length + r.length ≤ b.length) ∧ Hid (r.length ≤ c1) ∧ Hid (c1 ≤ maxLen) ∧ Hid (O = (decL f r).map (D ++ ·)) ∧ Hid (Rb wr B r) ∧ Hid (wr.ownsRow w.heap.size 27 16 (.slice A2 n c2) n (flat encC D)) ∧ Hid (Rc wr A2 D) ∧ Hid (Ext w wr)) (fun v _ _ => lenV v)
  case atStart => exact ⟨A, b, cb, [], 0, b.length, none, 0, rfl, rfl, rfl, Nat.le_refl _, by show _ ≤ _; simp, hc.out, hc2.out, by show _ = _; rw [← hO.out]; simp, h.out, own_nilG _ _, Rw.nil, Ext.refl w⟩
  case round =>
    obtain ⟨B, r, c1, D, n, f, A2, c2, rfl, rfl, HN, HF, HD, hc3, hc4, HO, HB, HW, HR, HX⟩ := hrel
    by_cases hr : 0 < r.length
    · obtain ⟨g, rfl⟩ : ∃ g, f = g + 1 := ⟨f - 1, by have := HF.out; omega⟩
      have HO2 := HO.out
      rw [decL_step hr] at HO2
      have hrb : r.length ≤ 100000000 := by have := HD.out; have := hb.out; omega
      have kT := Lib.hid (pMTake HB.out hrb c1 hc3.out hc4.out)
      replace HO2 := Lib.hid HO2
      have q1 : decide ((r.length : Int) > 0) = true := decide_eq_true (by omega)
      clear HO
      go_wp2_with fail
      refine kT.out.mono ?_
      rintro e w3 ⟨x3, hres⟩
      cases hd : decC r with
      | none =>
        rw [hd] at hres
        simp only at hres
        subst hres
        have hOn : O = none := by rw [HO2.out, hd]; rfl
        subst hOn
        have X4 := Lib.hid ((HX.out.trans x3).alloc (.cells (encC cm0).toArray 27))
        clear hd HO2 kT x3 HF HD
        go_wp2_with (first | (refine store_newE rfl 27 _ _ (by rfl) w3 w3.heap.size rfl (encC cm0).toArray (encC cm0).toArray 27 (by rfl) (by rfl) (by rfl) sizeC rfl (cells_okC cm0) ?_))
        go_ret2
        exact ⟨X4.out, rfl⟩
      | some q =>
        obtain ⟨c, t⟩ := q
        rw [hd] at hres
        simp only at hres
        obtain ⟨A3, c3, rfl, hRt, hc3', hc4', hNt⟩ := hres
        obtain ⟨hpl, h64, hrt⟩ := decC_some hd
        have hp := encM_pos hpl h64
        have hlen : r.length = (encM c).length + t.length := by rw [hrt, List.length_append]
        have HO3 : Hid (O = (decL g t).map ((D ++ [c]) ++ ·)) := by
          show _ = _
          rw [HO2.out, hd]
          simp only [Option.map_map]
          congr 1
          funext l
          simp
        obtain ⟨C, hC⟩ : ∃ C, encC c = C := ⟨_, rfl⟩
        have sC2 : Hid ((Try.prog.info? 27).map (·.size) = some C.toArray.size) := by show _ = _; rw [← hC]; exact sizeC
        have oC : Hid (C.toArray.all (·.oneCell') = true) := by show _ = _; rw [← hC]; exact cells_okC c
        have zC : Hid ((encC cm0).toArray.size = C.toArray.size) := by show _ = _; rw [← hC]; rfl
        have HB4 := Lib.hid (Bx.new w3 C 27)
        rw [hC]
        replace hC := Lib.hid hC
        have X4 := Lib.hid ((HX.out.trans x3).alloc (.cells C.toArray 27))
        have W4 := Lib.hid (own_below HW.out (x3.alloc (.cells C.toArray 27)))
        have lC : Hid (C.toArray = #[.int .i64 c.kind, .int .i64 c.fk, .int .i64 c.ev.id, .int .i64 c.ev.worker, .int .i64 c.ev.at_, .int .i64 c.ev.kind, .int .i64 c.ev.fr, .int .i64 c.ev.to, .int .i64 c.ev.element, .int .i64 c.ev.units, .int .i64 c.ev.cls, .int .i64 c.ev.gear, .int .i64 c.ev.code, .int .i64 c.worker, .int .i64 c.week, .int .i64 c.tear]) := by show _ = _; rw [← hC.out]; rfl
        go_wp2_with (first | (refine store_newE rfl 27 _ _ (by rfl) w3 w3.heap.size rfl (encC cm0).toArray C.toArray 27 (by rfl) (by rfl) (by rfl) sC2.out zC.out oC.out ?_) | (refine load_boxE rfl 27 _ (by rfl) w3.heap.size (by rfl) C #[.int .i64 c.kind, .int .i64 c.fk, .int .i64 c.ev.id, .int .i64 c.ev.worker, .int .i64 c.ev.at_, .int .i64 c.ev.kind, .int .i64 c.ev.fr, .int .i64 c.ev.to, .int .i64 c.ev.element, .int .i64 c.ev.units, .int .i64 c.ev.cls, .int .i64 c.ev.gear, .int .i64 c.ev.code, .int .i64 c.worker, .int .i64 c.week, .int .i64 c.tear] lC.out 27 HB4.out _ Try.underlying27 rfl sizeC ?_) | (at_builtin; refine appGB elC w _ (X4.out.alloc _) _ _ (by rfl) (by rfl) n _ D [c] (by rfl) (own_below W4.out ((Ext.refl _).alloc _)) HN.out (some ⟨w3.heap.size + 1, 0, none⟩) 1 1 (by rfl) rfl (Rw.new_at elC (w3.alloc (.cells C.toArray 27)) [c] 27 (w3.heap.size + 1) (by simp)) (by have := HD.out; have := hb.out; simp; omega) ?_; intro A5 c5 w5 o5 x5 g5 _))
        have hR5 : Hid (Rb w5 A3 t) := Rw.moved ((hRt.alloc (.cells C.toArray 27)).alloc _) g5 (fun blk off hA hb => by
          have h1 := hNt blk off hA
          have h2 := own_lt HW.out hb.symm
          omega)
        refine ⟨⟨A3, t, c3, D ++ [c], n + 1, g, A5, c5, rfl, rfl, ?_, ?_, ?_, hc3', hc4', HO3, hR5, o5, ?_, x5⟩, ?_⟩
        · show _ = _; rw [List.length_append, ← HN.out]; rfl
        · show _ ≤ _; have := HF.out; omega
        · show _ ≤ _; have := HD.out; rw [List.length_append]; simp; omega
        · have e : n + 1 = (D ++ [c]).length := by rw [List.length_append, ← HN.out]; rfl
          rw [e] at o5
          exact Rw.own elC o5
        · show t.length < r.length; omega
    · have hr0 : r = [] := List.eq_nil_of_length_eq_zero (by omega)
      subst hr0
      have hOs : O = some D := by rw [HO.out]; cases f <;> simp [decL]
      subst hOs
      have q1 : decide ((([] : List UInt8).length : Int) > 0) = false := by simp
      clear HO
      go_wp2_with fail
      go_ret2
      have hn := HN.out
      subst hn
      exact ⟨HX.out, A2, c2, rfl, HR.out, HW.out⟩
end Go.Proofs.Ytmbjbbflhlndcaa
