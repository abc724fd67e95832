/-
  Keys touched: plain.
  A range over a map of keys: what is left; a world cut short.
  fixes.Touched.
-/
import Derived.Test.YtmbjbbflhlndcaaQd3
import Derived.Test.YtmbjbbflhlndcaaQe3
import Derived.Carry
namespace Go.Proofs.Ytmbjbbflhlndcaa
open Go.RowKit BigFrame
set_option linter.unusedVariables false
set_option linter.unusedSimpArgs false
namespace KK
def Strict (l : List Ky) : Prop := l.Pairwise fun x y => aheadK x y = true
theorem ahead_trans {x y z : Ky} (h1 : aheadK x y = true) (h2 : aheadK y z = true) : aheadK x z = true := by
  unfold aheadK at *
  rw [decide_eq_true_iff] at *
  omega
theorem ahead_tri {x y : Ky} (h1 : aheadK x y = false) (h2 : x ≠ y) : aheadK y x = true := by
  unfold aheadK at *
  rw [decide_eq_false_iff_not] at h1
  rw [decide_eq_true_iff]
  have : ¬ (x.worker = y.worker ∧ x.week = y.week) := fun e => h2 (by cases x; cases y; simp at e; simp [e])
  omega
theorem putK_nil (k : Ky) : putK [] k = [k] := rfl
theorem putK_cons (x : Ky) (l : List Ky) (k : Ky) : putK (x :: l) k = if aheadK x k then x :: putK l k else if x = k then x :: l else k :: x :: l := by
  unfold putK cutK
  rw [List.takeWhile_cons]
  cases h : aheadK x k with
  | true =>
    simp only [if_true, List.length_cons, List.getElem?_cons_succ, List.take_succ_cons, List.drop_succ_cons, List.cons_append]
    split <;> rfl
  | false =>
    simp only [Bool.false_eq_true, if_false, List.length_nil, List.getElem?_cons_zero, List.take_zero, List.drop_zero, List.nil_append, Option.some.injEq]
theorem putK_mem (l : List Ky) (k y : Ky) : y ∈ putK l k ↔ y ∈ l ∨ y = k := by
  induction l with
  | nil => rw [putK_nil]; simp
  | cons x l ih =>
    rw [putK_cons]
    split
    · rw [List.mem_cons, ih, List.mem_cons, or_assoc]
    · split
      · next h => subst h; simp only [List.mem_cons]; exact ⟨fun h => .inl h, fun h => by rcases h with h | h; exact h; exact .inl h⟩
      · simp only [List.mem_cons]; exact ⟨fun h => by rcases h with h | h; exact .inr h; exact .inl h, fun h => by rcases h with h | h; exact .inr h; exact .inl h⟩
theorem putK_strict {l : List Ky} (h : Strict l) (k : Ky) : Strict (putK l k) := by
  induction l with
  | nil => rw [putK_nil]; unfold Strict; simp
  | cons x l ih =>
    obtain ⟨h1, h2⟩ := List.pairwise_cons.1 h
    rw [putK_cons]
    split
    · next hx =>
      refine List.pairwise_cons.2 ⟨fun y hy => ?_, ih h2⟩
      rcases (putK_mem l k y).1 hy with hy | rfl
      · exact h1 y hy
      · exact hx
    · next hx =>
      split
      · exact h
      · next hk =>
        have hkx := ahead_tri (by simpa using hx) hk
        refine List.pairwise_cons.2 ⟨fun y hy => ?_, h⟩
        rcases List.mem_cons.1 hy with rfl | hy
        · exact hkx
        · exact ahead_trans hkx (h1 y hy)
theorem touchK_mem (ks : List Ky) : ∀ (l : List Ky) (y : Ky), y ∈ touchK l ks ↔ y ∈ l ∨ y ∈ ks := by
  induction ks with
  | nil => intro l y; show y ∈ l ↔ _; simp
  | cons k ks ih =>
    intro l y
    show y ∈ touchK (putK l k) ks ↔ _
    rw [ih, putK_mem, List.mem_cons, or_assoc]
theorem touchK_strict (ks : List Ky) : ∀ {l : List Ky}, Strict l → Strict (touchK l ks) := by
  induction ks with
  | nil => intro l h; exact h
  | cons k ks ih => intro l h; exact ih (putK_strict h k)
theorem Strict.nodup {l : List Ky} (h : Strict l) : l.Nodup := List.Pairwise.imp (fun {a b} hab => by rintro rfl; rw [ordK.irr] at hab; cases hab) h
theorem Strict.sorted {l : List Ky} (h : Strict l) : Stb.Sorted aheadK l := List.Pairwise.imp (fun {a b} hab => ordK.asy _ _ hab) h
theorem eqv_is (x y : Ky) : Stb.eqv aheadK x y = decide (y = x) := by
  by_cases h : y = x
  · subst h; rw [Stb.eqv_self ordK]; simp
  · rw [decide_eq_false h]
    unfold Stb.eqv
    cases h1 : aheadK x y with
    | true => rfl
    | false => rw [ahead_tri h1 (fun e => h e.symm)]; rfl
theorem filt {L : List Ky} (h : L.Nodup) (x : Ky) : L.filter (Stb.eqv aheadK x) = if x ∈ L then [x] else [] := by
  induction L with
  | nil => rfl
  | cons y L ih =>
    obtain ⟨h1, h2⟩ := List.nodup_cons.1 h
    rw [List.filter_cons, eqv_is, ih h2]
    by_cases e : y = x
    · subst e
      rw [if_neg h1]; simp
    · rw [decide_eq_false e]
      simp only [Bool.false_eq_true, if_false, List.mem_cons]
      by_cases hm : x ∈ L
      · rw [if_pos hm, if_pos (.inr hm)]
      · rw [if_neg hm, if_neg (fun h => by rcases h with h | h; exact e h.symm; exact hm h)]
/-- A sorted list of the same keys. -/
theorem touch_is {L T ks : List Ky} (hL : L.Nodup) (hm : ∀ k, k ∈ L ↔ k ∈ ks) (s : Stb.Sorted aheadK T) (st : Stb.Stab aheadK L T) : T = touchK [] ks := by
  have hS : Strict (touchK [] ks) := touchK_strict ks (by unfold Strict; simp)
  refine Stb.unique ordK s hS.sorted (st.symm.trans fun x => ?_)
  rw [filt hL, filt hS.nodup]
  have : x ∈ L ↔ x ∈ touchK [] ks := by rw [touchK_mem, hm]; simp
  by_cases h : x ∈ L
  · rw [if_pos h, if_pos (this.1 h)]
  · rw [if_neg h, if_neg (fun e => h (this.2 e))]
theorem nodup_few : ∀ (n : Nat) (s : List Nat), s.Nodup → (∀ i ∈ s, i < n) → s.length ≤ n
  | 0, s, _, h => by
    cases s with
    | nil => exact Nat.le_refl _
    | cons a s => have := h a (by simp); omega
  | n + 1, s, hs, h => by
    by_cases hn : n ∈ s
    · have := nodup_few n (s.erase n) (hs.erase n) (fun i hi => by
        have h1 := h i (List.mem_of_mem_erase hi)
        have h2 : i ≠ n := by rintro rfl; exact (List.Nodup.not_mem_erase hs) hi
        omega)
      rw [List.length_erase_of_mem hn] at this
      omega
    · have := nodup_few n s hs (fun i hi => by
        have h1 := h i hi
        have h2 : i ≠ n := by rintro rfl; exact hn hi
        omega)
      omega
end KK
end Go.Proofs.Ytmbjbbflhlndcaa
namespace Go.Proofs.Ytmbjbbflhlndcaa
open Go.RowKit BigFrame Go.ChangeMaps
set_option linter.unusedVariables false
set_option linter.unusedSimpArgs false
namespace KK
/-- A world with its first blocks alone. -/
def cutW (B : Nat) (w : World) : World := { w with heap := w.heap.extract 0 B }
section
variable {B g : Nat} {u w w' : World}
theorem cutW_size (h : B ≤ w.heap.size) : (cutW B w).heap.size = B := by
  show (w.heap.extract 0 B).size = B
  rw [Array.size_extract]; omega
theorem cutW_get (h : B ≤ w.heap.size) {k : Nat} (hk : k < B) : (cutW B w).heap[k]? = w.heap[k]? := by
  show (w.heap.extract 0 B)[k]? = _
  rw [Array.getElem?_extract_of_lt (by omega)]
  simp only [Nat.zero_add]
  exact (Array.getElem?_eq_getElem _).symm
theorem cutW_ext (h : B ≤ w.heap.size) : Ext (cutW B w) w :=
  ⟨rfl, rfl, rfl, by rw [cutW_size h]; exact h, fun k hk => by rw [cutW_size h] at hk; exact (cutW_get h hk).symm⟩
theorem cutW_at (h : B ≤ w.heap.size) (y : Ext (cutW B w) w') {k : Nat} (hk : k < B) : w'.heap[k]? = w.heap[k]? :=
  (y.block k (by rw [cutW_size h]; exact hk)).trans (cutW_get h hk)
theorem cutW_extR (h : B ≤ w.heap.size) (x : ExtR g u w) (hB : u.heap.size = B) (y : Ext (cutW B w) w') : ExtR g u w' :=
  ⟨y.os.trans x.os, y.tape.trans x.tape, y.output.trans x.output, by have := y.size; rw [cutW_size h] at this; omega, fun k hk hg => (cutW_at h y (by omega)).trans (x.block k hk hg)⟩
end
theorem own_setBlock {w : World} {e size n B g : Nat} {v : Value} {xs : List Value} (h : w.ownsRow B e size v n xs) (hg : g < B) (o : Obj) : (setBlock w g o).ownsRow B e size v n xs := by
  obtain ⟨h0, h1 | ⟨g', cap, cur, h1, h2, h3, h4⟩⟩ := h
  · exact ⟨h0, .inl h1⟩
  · refine ⟨h0, .inr ⟨g', cap, cur, h1, h2, ?_, h4⟩⟩
    show (w.heap.setIfInBounds g o)[g']? = _
    rw [Array.getElem?_setIfInBounds, if_neg (by omega)]
    exact h3
theorem own_same {w w' : World} {e size n B : Nat} {v : Value} {xs : List Value} (h : w.ownsRow B e size v n xs) (hh : w'.heap = w.heap) : w'.ownsRow B e size v n xs := by
  unfold World.ownsRow at *
  rw [hh]; exact h
theorem entsK_mem {m : List (Ky × Int)} {e : MapEntry} (h : e ∈ entsK 0 m) : ∃ (i : Nat) (p : Ky × Int), m[i]? = some p ∧ e = ⟨.agg (encK p.1).toArray, .int .i64 p.2, i⟩ := by
  obtain ⟨i, hi⟩ := List.mem_iff_getElem?.1 h
  rw [entsK_get] at hi
  cases hm : m[i]? with
  | none => rw [hm] at hi; cases hi
  | some p =>
    rw [hm] at hi
    simp only [Option.map_some, Option.some.injEq, Nat.zero_add] at hi
    exact ⟨i, p, hm, hi.symm⟩
theorem left_some {m : List (Ky × Int)} {seen : List Nat} {e : MapEntry} (h : e ∈ (leftOf (entsK 0 m).toArray seen.toArray).toList) : ∃ (i : Nat) (p : Ky × Int), m[i]? = some p ∧ i ∉ seen ∧ e = ⟨.agg (encK p.1).toArray, .int .i64 p.2, i⟩ := by
  unfold leftOf at h
  have h2 : e ∈ entsK 0 m ∧ e.born ∉ seen := by simpa using h
  obtain ⟨i, p, h3, h4⟩ := entsK_mem h2.1
  refine ⟨i, p, h3, ?_, h4⟩
  have := h2.2
  rw [h4] at this
  exact this
theorem left_none {m : List (Ky × Int)} {seen : List Nat} (h : (leftOf (entsK 0 m).toArray seen.toArray).size = 0) : ∀ i, i < m.length → i ∈ seen := fun i hi => by
  unfold leftOf at h
  have h2 := Array.eq_empty_of_size_eq_zero h
  rw [Array.filter_eq_empty_iff] at h2
  have hg : (entsK 0 m)[i]? = some ⟨.agg (encK m[i].1).toArray, .int .i64 m[i].2, i⟩ := by rw [entsK_get, List.getElem?_eq_getElem hi, Nat.zero_add]; rfl
  have := h2 _ (by simpa using List.mem_of_getElem? hg)
  simpa using this
theorem born_lt (m : List (Ky × Int)) : ∀ x ∈ (entsK 0 m).toArray.toList, x.born < m.length := fun x hx => by
  obtain ⟨i, p, h1, rfl⟩ := entsK_mem (by simpa using hx)
  exact (List.getElem?_eq_some_iff.1 h1).1
theorem born_nodup (m : List (Ky × Int)) : ((entsK 0 m).toArray.toList.map (·.born)).Nodup := by
  show ((entsK 0 m).map (·.born)).Nodup
  rw [entsK_born]; exact List.nodup_range'
/-- The keys at some places. -/
def keysAt (m : List (Ky × Int)) (seen : List Nat) : List Ky := seen.map fun i => ((m[i]?).getD (⟨0, 0⟩, 0)).1
theorem keysAt_snoc {m : List (Ky × Int)} {seen : List Nat} {i : Nat} {p : Ky × Int} (h : m[i]? = some p) : keysAt m (seen ++ [i]) = keysAt m seen ++ [p.1] := by
  unfold keysAt
  rw [List.map_append]
  simp [h]
theorem keysAt_nodup {m : List (Ky × Int)} (hm : (m.map (·.1)).Nodup) : ∀ {seen : List Nat}, seen.Nodup → (∀ i ∈ seen, i < m.length) → (keysAt m seen).Nodup := by
  intro seen hs hl
  unfold keysAt
  induction seen with
  | nil => simp
  | cons a seen ih =>
    obtain ⟨h1, h2⟩ := List.nodup_cons.1 hs
    rw [List.map_cons, List.nodup_cons]
    refine ⟨fun hc => ?_, ih h2 fun i hi => hl i (by simp [hi])⟩
    obtain ⟨b, hb, e⟩ := List.mem_map.1 hc
    have ha := hl a (by simp)
    have hb2 := hl b (by simp [hb])
    rw [List.getElem?_eq_getElem ha, List.getElem?_eq_getElem hb2] at e
    simp only [Option.getD_some] at e
    have hab : b = a := by
      have hp := List.pairwise_iff_getElem.1 hm
      rcases Nat.lt_trichotomy b a with hlt | heq | hgt
      · exact absurd (by rw [List.getElem_map, List.getElem_map]; exact e) (hp b a (by simpa using hb2) (by simpa using ha) hlt)
      · exact heq
      · exact absurd (by rw [List.getElem_map, List.getElem_map]; exact e.symm) (hp a b (by simpa using ha) (by simpa using hb2) hgt)
    subst hab
    exact h1 hb
theorem keysAt_mem {m : List (Ky × Int)} {seen : List Nat} (hl : ∀ i ∈ seen, i < m.length) (ha : ∀ i, i < m.length → i ∈ seen) (k : Ky) : k ∈ keysAt m seen ↔ k ∈ m.map (·.1) := by
  unfold keysAt
  constructor
  · intro h
    obtain ⟨i, hi, e⟩ := List.mem_map.1 h
    have := hl i hi
    rw [List.getElem?_eq_getElem this] at e
    exact List.mem_map.2 ⟨m[i], List.getElem_mem _, e⟩
  · intro h
    obtain ⟨p, hp, e⟩ := List.mem_map.1 h
    obtain ⟨i, hi⟩ := List.mem_iff_getElem?.1 hp
    refine List.mem_map.2 ⟨i, ha i (List.getElem?_eq_some_iff.1 hi).1, ?_⟩
    rw [hi]; exact e
/-- The keys of the map behind some touches. -/
theorem bumps_keys (ks : List Ky) : ∀ {m : List (Ky × Int)}, (m.map (·.1)).Nodup → ((ks.foldl bumpM m).map (·.1)).Nodup ∧ (∀ k, k ∈ (ks.foldl bumpM m).map (·.1) ↔ k ∈ m.map (·.1) ∨ k ∈ ks) ∧ (ks.foldl bumpM m).length ≤ m.length + ks.length := by
  induction ks with
  | nil => intro m h; exact ⟨h, fun k => by simp, Nat.le_refl _⟩
  | cons k ks ih =>
    intro m h
    have hb := bump_keys m k
    have hn : ((bumpM m k).map (·.1)).Nodup := by
      rw [hb]
      split
      · exact h
      · next hk =>
        rw [List.nodup_append]
        exact ⟨h, by simp, fun a ha b hb2 => by simp at hb2; subst hb2; rintro rfl; exact hk ha⟩
    have hl : (bumpM m k).length ≤ m.length + 1 := by
      have := congrArg List.length hb
      rw [List.length_map] at this
      rw [this]
      split <;> simp
    obtain ⟨h1, h2, h3⟩ := ih hn
    refine ⟨h1, fun y => ?_, by show (ks.foldl bumpM (bumpM m k)).length ≤ _; rw [List.length_cons]; omega⟩
    show y ∈ (ks.foldl bumpM (bumpM m k)).map (·.1) ↔ _
    rw [h2, hb, List.mem_cons]
    split
    · next hk =>
      constructor
      · rintro (h | h)
        · exact .inl h
        · exact .inr (.inr h)
      · rintro (h | rfl | h)
        · exact .inl h
        · exact .inl hk
        · exact .inr h
    · rw [List.mem_append, List.mem_singleton, or_assoc]
theorem cells_okK (x : Ky) : (encK x).toArray.all (·.oneCell') = true := by simp [encK, Value.oneCell']
theorem wpl_buildK {ops : Array Oper} {rest : List Oper} {o : Oper} {a : Act} {w : World} {Q : Exit → Act → World → Prop} (hgd : Region.wanted o (yielded ops a.tmps) = true) (y : Operand) (ho : o.op = .buildSlice 78 1 #[(0, y)]) (x : Ky) (hy : a.eval y = .agg (encK x).toArray)
    (h : wpList Try.prog ops Q rest (a.put o.dst (.slice (some ⟨w.heap.size, 0, none⟩) 1 1)) (w.alloc (.cells (encK x).toArray 106))) : wpList Try.prog ops Q (o :: rest) a w := by
  refine wpList_step fun K hK => ?_
  rw [if_pos hgd]
  exact wp_buildK y ho x hy (hK _ _ h)
def lenOf : Value → Nat
  | .slice _ n _ => n
  | _ => 0
end KK
end Go.Proofs.Ytmbjbbflhlndcaa
namespace Go.Proofs.Ytmbjbbflhlndcaa
open Go.RowKit BigFrame Go.ChangeMaps
set_option linter.unusedVariables false
set_option linter.unusedSimpArgs false
namespace KK
set_option maxRecDepth 100000 in
set_option maxHeartbeats 4000000 in
theorem pTouched {cs : List Value} {u c : Int} (hs : SuUC cs u c) {w : World} {A : Option Addr} {l : List Ev} (h : Re w A l) (cap n : Nat) (hn : l.length = n) (hl : n ≤ 1000) (f : Fx) :
    Calls Try.prog 51 #[.agg cs.toArray, .slice A n cap, .agg (encF f).toArray] w (RetK w (touchK [] (touchedL u c l f))) := by
  obtain ⟨T, hT⟩ : ∃ T, decide (f.kind = 2 ∨ f.kind = 3) = T := ⟨_, rfl⟩
  obtain ⟨P, hP⟩ : ∃ P, decide (f.kind = 1 ∨ f.kind = 3) = P := ⟨_, rfl⟩
  obtain ⟨ks, hks⟩ : ∃ ks, touchedL u c l f = ks := ⟨_, rfl⟩
  have hK : Hid ((if T && (ixE l f.ev.id).isSome then weeksE u c (fdE l f.ev.id) else []) ++ (if P then weeksE u c f.ev else []) = ks) := by
    show _ = _
    rw [← hks, ← hT, ← hP]
    unfold touchedL
    cases hx : ixE l f.ev.id with
    | none => by_cases h2 : f.kind = 2 ∨ f.kind = 3 <;> by_cases h1 : f.kind = 1 ∨ f.kind = 3 <;> simp [h1, h2]
    | some i => by_cases h2 : f.kind = 2 ∨ f.kind = 3 <;> by_cases h1 : f.kind = 1 ∨ f.kind = 3 <;> simp [h1, h2]
  rw [hks]
  clear hks
  obtain ⟨W0, hW0⟩ : ∃ W0, (w.alloc (.cells cs.toArray 55)).alloc (.cells (encF f).toArray 25) = W0 := ⟨_, rfl⟩
  have hz0 : Hid (W0.heap.size = w.heap.size + 2) := by rw [← hW0]; show _ = _; simp
  have BS : Hid (Bx W0 w.heap.size cs 55) := by rw [← hW0]; exact (Bx.new w cs 55).alloc _
  have BF : Hid (Bx W0 (w.heap.size + 1) (encF f) 25) := by
    rw [← hW0]
    have := Bx.new (w.alloc (.cells cs.toArray 55)) (encF f) 25
    rwa [show (w.alloc (.cells cs.toArray 55)).heap.size = w.heap.size + 1 from by simp] at this
  have X0 : Hid (Ext w W0) := by rw [← hW0]; exact ((Ext.refl w).alloc _).alloc _
  have L0 := Lib.hid (h.ext X0.out)
  have kTk := Lib.hid (fun W => pTakes f W); have kPt := Lib.hid (fun W => pPuts f W)
  rw [hT] at kTk; rw [hP] at kPt
  have kC := Lib.hid (fun (W : World) (gs gm r : Nat) (m : List (Ky × Int)) HS HG HM e => pTouch1 hs (w := W) (gs := gs) (gm := gm) (r := r) (m := m) HS HG HM e)
  have kF : Hid (∀ W, Re W A l → Calls Try.prog 48 #[.slice A n cap, .int .i64 f.ev.id] W (RetFd W (fdE l f.ev.id) (ixE l f.ev.id).isSome)) := fun W hW => pFind hW f.ev.id cap n hn (by omega)
  have hmm := @run_makeMap Try.prog
  replace hs := Lib.hid hs; replace hW0 := Lib.hid hW0; replace hn := Lib.hid hn; replace hT := Lib.hid hT; replace hP := Lib.hid hP
  clear h
  go_enter Try.func51, Try.ntmps51
  go_upto_region 1 with fail
  rw [hW0.out]
  go_upto_region 2 with fail
  obtain ⟨r, hr⟩ : ∃ r, W0.heap.size = r := ⟨_, rfl⟩
  obtain ⟨W1, hW1⟩ : ∃ W, (W0.alloc (.map #[] 0)).alloc (.cells #[.map (some r)] 111) = W := ⟨_, rfl⟩
  have X01 : Hid (Ext W0 W1) := by rw [← hW1]; exact ((Ext.refl W0).alloc _).alloc _
  have BM1 : Hid (Mk W1 r []) := by
    rw [← hW1, ← hr]
    exact (Mk.new W0).ext ((Ext.refl _).alloc _)
  have BG1 : Hid (Bx W1 (r + 1) [.map (some r)] 111) := by
    rw [← hW1]
    have := Bx.new (W0.alloc (.map #[] 0)) [.map (some r)] 111
    rwa [show (W0.alloc (.map #[] 0)).heap.size = r + 1 from by simp [hr]] at this
  have X1 := Lib.hid (X0.out.trans X01.out); have BS1 := Lib.hid (BS.out.ext X01.out); have BF1 := Lib.hid (BF.out.ext X01.out); have L1 := Lib.hid (L0.out.ext X01.out)
  have hrw : Hid (w.heap.size + 2 = r) := by have := hz0.out; show _ = _; omega
  have ci := BF1.out.cell 1 _ rfl
  rw [hr, hW1]
  clear X01 X0 BS BF L0 hz0 hW0 hW1 hr hmm W0
  go_upto_region 3 with fail
  go_wp2_with fail
  refine (kF.out _ L1.out).mono ?_
  rintro e2 w2 ⟨x2, rfl⟩
  have X2 := Lib.hid (X1.out.trans x2); have BS2 := Lib.hid (BS1.out.ext x2); have BF2 := Lib.hid (BF1.out.ext x2); have BG2 := Lib.hid (BG1.out.ext x2); have BM2 := Lib.hid (BM1.out.ext x2)
  clear x2 X1 BS1 BF1 BG1 BM1 L1 kF ci
  obtain ⟨x, hx⟩ : ∃ x, fdE l f.ev.id = x := ⟨_, rfl⟩
  obtain ⟨I, hI⟩ : ∃ I, (ixE l f.ev.id).isSome = I := ⟨_, rfl⟩
  rw [hx, hI] at hK ⊢
  clear hx hI
  go_upto_region 4 with (first | (refine store_newE rfl 23 _ _ (by rfl) w2 w2.heap.size rfl _ (encV x).toArray 23 rfl (by rfl) (by rfl) sizeV rfl (cells_ok x) ?_) | fail)
  obtain ⟨ge, hge⟩ : ∃ g, w2.heap.size = g := ⟨_, rfl⟩
  obtain ⟨w3, hw3⟩ : ∃ W, w2.alloc (.cells (encV x).toArray 23) = W := ⟨_, rfl⟩
  have x3 : Ext w2 w3 := by rw [← hw3]; exact (Ext.refl w2).alloc _
  have BE3 : Hid (Bx w3 ge (encV x) 23) := by rw [← hw3, ← hge]; exact Bx.new w2 _ _
  have X3 := Lib.hid (X2.out.trans x3); have BS3 := Lib.hid (BS2.out.ext x3); have BF3 := Lib.hid (BF2.out.ext x3); have BG3 := Lib.hid (BG2.out.ext x3); have BM3 := Lib.hid (BM2.out.ext x3)
  rw [hge, hw3]
  clear hge hw3 x3 X2 BS2 BF2 BG2 BM2 w2
  obtain ⟨w3, hw3⟩ : ∃ W, w3 = W := ⟨_, rfl⟩
  rw [hw3] at X3 BS3 BF3 BG3 BM3 BE3 ⊢
  clear hw3
  go_cut [27] from 23 (fun v wc => v = .bool (T && I) ∧ Hid (Ext w3 wc))
  case first =>
    cases I with
    | false =>
      go_wp2_with fail
      go_meet
      case rel => exact ⟨by rw [Bool.and_false], Ext.refl _⟩
    | true =>
      go_wp2_with (first | (refine load_box (by rfl) 25 _ rfl (w.heap.size + 1) rfl _ _ BF3.out _ Try.underlying25 rfl sizeF ?_) | fail)
      refine (kTk.out _).mono ?_
      rintro e4 w4 ⟨rfl, x4⟩
      replace x4 := Lib.hid x4
      go_wp2_with fail
      go_meet
      case rel => exact ⟨by rw [Bool.and_true], x4⟩
  case rest =>
    obtain ⟨rfl, x4⟩ := hcut
    obtain ⟨w4, hw4⟩ : ∃ W, wc = W := ⟨_, rfl⟩
    rw [hw4] at x4 ⊢
    clear hw4
    obtain ⟨B, hB⟩ : ∃ B, (T && I) = B := ⟨_, rfl⟩
    rw [hB] at hK ⊢
    clear hB
    have BS4 := Lib.hid (BS3.out.ext x4.out); have BG4 := Lib.hid (BG3.out.ext x4.out); have BM4 := Lib.hid (BM3.out.ext x4.out); have BE4 := Lib.hid (BE3.out.ext x4.out); have BF4 := Lib.hid (BF3.out.ext x4.out); have X4 := Lib.hid (X3.out.trans x4.out)
    clear x4 X3 BS3 BF3 BG3 BM3 BE3
    go_upto_if 27 with fail
    go_cut [] from 28 (fun wc => Hid (Mk wc r ((if B then weeksE u c x else []).foldl bumpM [])) ∧ Hid (ExtR r w4 wc))
    case first =>
      cases B with
      | false =>
        go_wp2_with fail
        go_meet
        case rel => exact ⟨BM4, ExtR.refl _ _⟩
      | true =>
        go_wp2_with (first | (refine load_box (by rfl) 23 _ rfl ge rfl _ _ BE4.out _ Try.underlying23 rfl sizeV ?_) | fail)
        refine (kC.out w4 w.heap.size (r + 1) r [] BS4.out BG4.out BM4.out x).mono ?_
        rintro e5 w5 ⟨rfl, m5, x5⟩
        replace m5 := Lib.hid m5; replace x5 := Lib.hid x5
        clear BS4 BG4 BM4 BE4
        go_wp2_with fail
        go_meet
        case rel => exact ⟨m5, x5⟩
    case rest =>
      obtain ⟨BM5, x5⟩ := hcut
      obtain ⟨w5, hw5⟩ : ∃ W, wc = W := ⟨_, rfl⟩
      rw [hw5] at x5 BM5 ⊢
      clear hw5
      have hrw2 := hrw.out
      have BS5 := Lib.hid (x5.out.bx BS4.out (by omega)); have BG5 := Lib.hid (x5.out.bx BG4.out (by omega)); have BF5 := Lib.hid (x5.out.bx BF4.out (by omega)); have X5 := Lib.hid (x5.out.ext X4.out (by omega))
      clear x5 X4 BS4 BG4 BM4 BE4 BF4 hrw2
      go_upto_if 32 with (first | (refine load_box (by rfl) 25 _ rfl (w.heap.size + 1) rfl _ _ BF5.out _ Try.underlying25 rfl sizeF ?_) | fail)
      refine (kPt.out _).mono ?_
      rintro e6 w6 ⟨rfl, x6⟩
      have BS6 := Lib.hid (BS5.out.ext x6); have BG6 := Lib.hid (BG5.out.ext x6); have BM6 := Lib.hid (BM5.out.ext x6); have BF6 := Lib.hid (BF5.out.ext x6); have X6 := Lib.hid (X5.out.trans x6)
      have BV6 := Lib.hid BF6.out.tail
      clear x6 X5 BS5 BG5 BM5 BF5
      go_upto_if 32 with fail
      go_cut [] from 33 (fun wc => Hid (Mk wc r (ks.foldl bumpM [])) ∧ Hid (ExtR r w6 wc))
      case first =>
        cases P with
        | false =>
          go_wp2_with fail
          go_meet
          case rel => exact ⟨by rw [← hK.out, List.foldl_append]; exact BM6, ExtR.refl _ _⟩
        | true =>
          go_wp2_with (first | (refine load_midG (by rfl) 23 _ rfl (w.heap.size + 1) 1 (by rfl) (encV f.ev) _ BV6.out Try.underlying23 rfl sizeE ?_) | fail)
          refine (kC.out w6 w.heap.size (r + 1) r _ BS6.out BG6.out BM6.out f.ev).mono ?_
          rintro e7 w7 ⟨rfl, m7, x7⟩
          replace m7 := Lib.hid m7; replace x7 := Lib.hid x7
          clear BS6 BG6 BM6 BF6 BV6
          go_wp2_with fail
          go_meet
          case rel => exact ⟨by rw [← hK.out, List.foldl_append]; exact m7, x7⟩
      case rest =>
        obtain ⟨BM7, x7⟩ := hcut
        obtain ⟨w7, hw7⟩ : ∃ W, wc = W := ⟨_, rfl⟩
        rw [hw7] at x7 BM7 ⊢
        clear hw7
        have hrw2 := hrw.out
        have BG7 := Lib.hid (x7.out.bx BG6.out (by omega)); have X7 := Lib.hid (x7.out.ext X6.out (by omega))
        obtain ⟨hkn, hkm, hkl⟩ := bumps_keys ks (m := []) (by simp)
        have hk12 : ks.length ≤ 12 := by
          rw [← hK.out, List.length_append]
          have h1 := weeksE_len u c x; have h2 := weeksE_len u c f.ev
          cases B <;> cases P <;> simp <;> omega
        obtain ⟨m, hm⟩ : ∃ m, ks.foldl bumpM [] = m := ⟨_, rfl⟩
        rw [hm] at BM7 hkn hkm hkl
        have hml : m.length ≤ 12 := by have : m.length ≤ ks.length := by simpa using hkl
                                       omega
        replace hkn := Lib.hid hkn; replace hkm := Lib.hid hkm; replace hrw2 := Lib.hid hrw2
        clear x7 X6 BS6 BG6 BM6 BF6 BV6 hm hkl hk12 kC kPt kTk hK hs hT hP hrw
        go_upto_region 9 with fail
        obtain ⟨gi, hgi⟩ : ∃ g, w7.heap.size = g := ⟨_, rfl⟩
        have hrg := run_range_map (P := Try.prog) w7 111 _ _ r _ _ Try.underlying111 BM7.out
        have cg := BG7.out.cell 0 _ rfl
        go_upto_region 10 with fail
        obtain ⟨W9, hW9⟩ : ∃ W, w7.alloc (.mapIter (some r) m.length #[] m.length) = W := ⟨_, rfl⟩
        rw [hW9]
        have x9 : Ext w7 W9 := by rw [← hW9]; exact (Ext.refl w7).alloc _
        have X9 := Lib.hid (X7.out.trans x9); have BM9 := Lib.hid (BM7.out.ext x9)
        have hrgi : Hid (r < gi) := by have := BM7.out.lt; show _ < _; omega
        have hS9 : Hid (W9.heap.size = gi + 1) := by rw [← hW9]; show _ = _; simp [hgi]
        have hI9 : Hid (W9.heap[gi]? = some (.mapIter (some r) m.length #[] m.length)) := by rw [← hW9, ← hgi]; exact heap_alloc_new w7 _
        clear x9 X7 BM7 BG7 hW9 hrg cg hgi
        go_loopw [11, 12] (fun vo vk wr => ∃ (seen : List Nat) (A' : Option Addr) (c' n' : Nat), vo = .slice A' n' c' ∧ Hid (seen.length = n') ∧ n' ≤ m.length ∧ Hid (seen.Nodup ∧ ∀ i ∈ seen, i < m.length) ∧ Hid (wr.ownsRow (gi + 1) 106 2 (.slice A' n' c') n' (flat encK (keysAt m seen))) ∧ Hid (wr.heap[gi]? = some (.mapIter (some r) m.length seen.toArray m.length)) ∧ Hid (ExtR gi W9 wr)) (fun vo _ _ => m.length - lenOf vo)
        case atStart => exact ⟨[], none, 0, 0, rfl, rfl, Nat.zero_le _, ⟨by simp, by simp⟩, own_nilG _ _, hI9.out, ExtR.refl _ _⟩
        case round =>
          obtain ⟨seen, A', c', n', rfl, hsn, hnm, HS, HO, HI, XR⟩ := hrel
          obtain ⟨wq, hwq⟩ : ∃ W, wr = W := ⟨_, rfl⟩
          rw [hwq] at HO HI XR ⊢
          clear hwq
          have HM : Hid (Mk wq r m) := (XR.out.block r (by have := hS9.out; have := hrgi.out; omega) (by have := hrgi.out; omega)).trans BM9.out
          rcases run_next_at (P := Try.prog) wq 0 gi r m.length m.length seen.toArray _ _ HI.out HM.out (born_lt m) (Nat.le_refl _) with ⟨h0, hnx⟩ | ⟨e, he, w1, hal, hnx⟩
          · have hB : gi + 1 ≤ wq.heap.size := by have := XR.out.size; have := hS9.out; omega
            have hkl : (keysAt m seen).length = n' := by unfold keysAt; rw [List.length_map]; exact hsn.out
            have hO : wq.ownsRow (cutW (gi + 1) wq).heap.size 106 2 (.slice A' n' c') n' (flat encK (keysAt m seen)) := by rw [cutW_size hB]; exact HO.out
            have hcc : n' ≤ c' ∧ c' ≤ maxLen := by
              rcases HO.out.2 with ⟨hv, _⟩ | ⟨g', cap', cur, hv, _, _, h1, h2, _⟩
              · cases hv; exact ⟨Nat.le_refl _, by decide⟩
              · cases hv; exact ⟨h1, h2⟩
            have kS := Lib.hid (pSortK (w0 := cutW (gi + 1) wq) (w := wq) hO (cutW_ext hB) hkl (by omega))
            have hfin : Hid (∀ T', Stb.Sorted aheadK T' → Stb.Stab aheadK (keysAt m seen) T' → T' = touchK [] ks) := fun T' s1 s2 =>
              touch_is (keysAt_nodup hkn.out HS.out.1 HS.out.2) (fun k => by rw [keysAt_mem HS.out.2 (left_none h0), hkm.out]; simp) s1 s2
            have hEx : Hid (∀ w', Ext (cutW (gi + 1) wq) w' → Ext w w') := fun w' y => (cutW_extR hB XR.out hS9.out y).ext X9.out (by have := hrw2.out; have := hrgi.out; omega)
            have hrow : Hid (∀ (w' : World) (T' : List Ky), T'.length = n' → w'.ownsRow (cutW (gi + 1) wq).heap.size 106 2 (.slice A' n' c') n' (flat encK T') → Rk w' A' T') := fun w' T' ht ho => Rw.own elK (by rw [ht]; exact ho)
            obtain ⟨hc1, hc2⟩ := hcc
            clear hB hkl hO h0 HS HO HI XR HM hsn
            go_wp2_with fail
            refine kS.out.mono ?_
            rintro e8 w8 ⟨rfl, T', o8, x8, t1, t2, t3⟩
            obtain rfl := hfin.out T' t2 t3
            have R8 := Lib.hid (hrow.out w8 _ t1 o8)
            have X8 := Lib.hid (hEx.out w8 x8)
            replace t1 := Lib.hid t1
            clear o8 x8 t2 t3 kS hfin hEx hrow hnx
            go_wp2_with fail
            go_ret
            exact ⟨A', c', by rw [t1.out]; rfl, R8.out, X8.out, by rw [t1.out]; exact hc1, hc2⟩
          · obtain ⟨i, p, hi, hins, rfl⟩ := left_some he
            have hi2 : i < m.length := (List.getElem?_eq_some_iff.1 hi).1
            have xw : Ext wq w1 := by
              rcases hal with rfl | rfl
              · exact Ext.refl _
              · exact (Ext.refl wq).drewN 1
            have hh : w1.heap = wq.heap := by rcases hal with rfl | rfl <;> rfl
            have hgs : gi < w1.heap.size := by rw [hh]; exact (Array.getElem?_eq_some_iff.1 HI.out).1
            go_upto_region 11 with fail
            obtain ⟨w2, hw2⟩ : ∃ W, setBlock w1 gi (.mapIter (some r) m.length (seen ++ [i]).toArray m.length) = W := ⟨_, rfl⟩
            rw [hw2]
            have HO2 : Hid (w2.ownsRow (gi + 1) 106 2 (.slice A' n' c') n' (flat encK (keysAt m seen))) := by rw [← hw2]; exact own_setBlock (own_same HO.out hh) (by omega) _
            have HI2 : Hid (w2.heap[gi]? = some (.mapIter (some r) m.length (seen ++ [i]).toArray m.length)) := by
              rw [← hw2]
              show (w1.heap.setIfInBounds gi _)[gi]? = _
              rw [Array.getElem?_setIfInBounds, if_pos rfl, if_pos hgs]
            have XR2 : Hid (ExtR gi W9 w2) := by rw [← hw2]; exact (XR.out.trans (ExtR.of xw)).trans (ExtR.set gi w1 _)
            have HM2 : Hid (Mk w2 r m) := (XR2.out.block r (by have := hS9.out; have := hrgi.out; omega) (by have := hrgi.out; omega)).trans BM9.out
            have hen := run_entry_at (P := Try.prog) w2 gi r m.length seen.toArray _ _ ⟨.agg (encK p.1).toArray, .int .i64 p.2, i⟩ (by rw [List.push_toArray]; exact HI2.out) HM2.out (by unfold leftOf at he; have := (by simpa using he : _ ∧ _).1; simpa using this) (born_nodup m)
            replace HS := Lib.hid HS.out; replace hi := Lib.hid hi; replace hins := Lib.hid hins
            clear hw2 hnx he hal xw hh hgs HO HI XR HM
            go_upto_region 12 with (first | (refine store_newE rfl 106 _ _ (by rfl) w2 w2.heap.size rfl _ (encK p.1).toArray 106 rfl (by rfl) (by rfl) sizeK rfl (cells_okK p.1) ?_) | fail)
            obtain ⟨gk, hgk⟩ : ∃ g, w2.heap.size = g := ⟨_, rfl⟩
            obtain ⟨w3, hw3⟩ : ∃ W, w2.alloc (.cells (encK p.1).toArray 106) = W := ⟨_, rfl⟩
            have x23 : Ext w2 w3 := by rw [← hw3]; exact (Ext.refl w2).alloc _
            have BK3 : Hid (Bx w3 gk (encK p.1) 106) := by rw [← hw3, ← hgk]; exact Bx.new w2 _ _
            have hB2 : gi + 1 ≤ w2.heap.size := by have := XR2.out.size; have := hS9.out; omega
            obtain ⟨w4, hw4⟩ : ∃ W, w3.alloc (.cells (encK p.1).toArray 106) = W := ⟨_, rfl⟩
            have x34 : Ext w3 w4 := by rw [← hw4]; exact (Ext.refl w3).alloc _
            have x24 : Ext w2 w4 := x23.trans x34
            have hB4 : gi + 1 ≤ w4.heap.size := Nat.le_trans hB2 x24.size
            have O4 : Hid (w4.ownsRow (cutW (gi + 1) w4).heap.size 106 2 (.slice A' n' c') n' (flat encK (keysAt m seen))) := by rw [cutW_size hB4]; exact own_below HO2.out x24
            have N4 : Hid (Rk w4 (some ⟨w3.heap.size, 0, none⟩) [p.1]) := by rw [← hw4]; exact Rw.new_at elK w3 [p.1] 106 _ rfl
            have hkl : Hid (n' = (keysAt m seen).length) := by show _ = _; unfold keysAt; rw [List.length_map]; exact hsn.out.symm
            have XC4 := Lib.hid (cutW_ext hB4)
            have XR4 := Lib.hid (XR2.out.trans (ExtR.of x24))
            have HI4 : Hid (w4.heap[gi]? = some (.mapIter (some r) m.length (seen ++ [i]).toArray m.length)) := (x24.block gi (by omega)).trans HI2.out
            have hn1 : Hid (n' + 1 ≤ m.length) := by
              have := nodup_few m.length (i :: seen) (List.nodup_cons.2 ⟨hins.out, HS.out.1⟩) (fun j hj => by
                rcases List.mem_cons.1 hj with rfl | hj
                · exact hi2
                · exact HS.out.2 j hj)
              rw [List.length_cons, hsn.out] at this
              exact this
            have HS2 : Hid ((seen ++ [i]).Nodup ∧ ∀ j ∈ seen ++ [i], j < m.length) := ⟨by
              rw [List.nodup_append]
              exact ⟨HS.out.1, by simp, fun a ha b hb => by simp at hb; subst hb; rintro rfl; exact hins.out ha⟩, fun j hj => by
              rcases List.mem_append.1 hj with hj | hj
              · exact HS.out.2 j hj
              · simp at hj; subst hj; exact hi2⟩
            have hks : Hid (keysAt m (seen ++ [i]) = keysAt m seen ++ [p.1]) := keysAt_snoc hi.out
            have hEnd : Hid (∀ (A7 : Option Addr) (c7 : Nat) (w7 : World), w7.ownsRow (cutW (gi + 1) w4).heap.size 106 2 (.slice A7 (n' + 1) c7) (n' + 1) (flat encK (keysAt m seen ++ [p.1])) → Ext (cutW (gi + 1) w4) w7 → Hid (w7.ownsRow (gi + 1) 106 2 (.slice A7 (n' + 1) c7) (n' + 1) (flat encK (keysAt m (seen ++ [i])))) ∧ Hid (w7.heap[gi]? = some (.mapIter (some r) m.length (seen ++ [i]).toArray m.length)) ∧ Hid (ExtR gi W9 w7)) := fun A7 c7 w7 o7 x7 => by
              rw [cutW_size hB4] at o7
              exact ⟨by rw [hks.out]; exact o7, (cutW_at hB4 x7 (by omega)).trans HI4.out, cutW_extR hB4 XR4.out hS9.out x7⟩
            have hsn2 : Hid ((seen ++ [i]).length = n' + 1) := by show _ = _; rw [List.length_append, hsn.out]; rfl
            replace hw4 := Lib.hid hw4
            have hkb : Hid ((keysAt m seen).length = n') := hkl.out.symm
            rw [hgk, hw3]
            clear hgk hw3 x23 hB2 x34 x24 hB4 XR4 HI4 HS HI2 XR2 HM2 HO2 hen hi hins hsn hks hi2
            go_wp2_with (first | (refine load_box (by rfl) 106 _ rfl gk rfl _ _ BK3.out _ Try.underlying106 rfl sizeK ?_) | (refine wpl_buildK (by rfl) _ rfl p.1 (by rfl) ?_; rw [hw4.out]) | (at_builtin; refine appG elK (cutW (gi + 1) w4) _ XC4.out _ _ (by rfl) (by rfl) n' _ (keysAt m seen) [p.1] (by rfl) O4.out hkl.out (some ⟨w3.heap.size, 0, none⟩) 1 1 (by rfl) rfl N4.out (by rw [hkb.out]; simp; omega) ?_; intro A7 c7 w7 o7 x7) | fail)
            obtain ⟨z1, z2, z3⟩ := hEnd.out A7 c7 w7 o7 x7
            have hn2 := hn1.out
            exact ⟨⟨seen ++ [i], A7, c7, n' + 1, rfl, hsn2, hn2, HS2, z1, z2, z3⟩, by simp only [lenOf]; omega⟩
end KK
end Go.Proofs.Ytmbjbbflhlndcaa
