/- Proved: lemmas that the law's proof stands on (YardV, YardW, YardX). Conditions: as each states. -/
import Derived.Test.YtimdaceidhdaeaaLawTwice10

namespace Go.Proofs.Ytimdaceidhdaeaa
open Go.RowKit Go.Proofs
/-- What an operation leaves of a yard. -/
def Step (w w' : World) (y : YS) (s : Ya) : Prop := ∃ y' : YS, YAt w' y' ∧ (y'.yb = y.yb ∧ y'.hb = y.hb) ∧ y'.abs = s ∧ (∀ k, y'.mem k → y.mem k ∨ w.heap.size ≤ k) ∧ Kp y.mem w w'
theorem Step.of_below {w w' : World} {y : YS} (H : YAt w y) (hB : Below w.heap.size w w') : Step w w' y y.abs :=
  ⟨y, H.kept (fun k hk => hB.block k (H.lt k hk)), ⟨rfl, rfl⟩, rfl, fun k hk => .inl hk, Kp.of_below hB⟩
theorem Step.next {w w1 w2 : World} {y : YS} {s s2 : Ya} (h : Step w w1 y s) (h2 : ∀ y1 : YS, YAt w1 y1 → (y1.yb = y.yb ∧ y1.hb = y.hb) → y1.abs = s → Step w1 w2 y1 s2) : Step w w2 y s2 := by
  obtain ⟨y1, a1, a2, a3, a4, a5⟩ := h
  obtain ⟨y2, b1, b2, b3, b4, b5⟩ := h2 y1 a1 a2 a3
  have hs := a5.size
  refine ⟨y2, b1, ⟨b2.1.trans a2.1, b2.2.trans a2.2⟩, b3, fun k hk => ?_, ⟨b5.os.trans a5.os, b5.tape.trans a5.tape, b5.output.trans a5.output, Nat.le_trans a5.size b5.size, fun k hk hf => (b5.block k (by omega) (fun hm => ?_)).trans (a5.block k hk hf)⟩⟩
  · rcases b4 k hk with h | h
    · exact a4 k h
    · exact .inr (by omega)
  · rcases a4 k hm with h | h
    · exact hf h
    · omega
theorem Step.after {w w1 w2 : World} {y y1 : YS} {s : Ya} (hk : Kp y.mem w w1) (hm : ∀ k, y1.mem k → y.mem k ∨ w.heap.size ≤ k) (hb : y1.yb = y.yb ∧ y1.hb = y.hb) (h : Step w1 w2 y1 s) : Step w w2 y s := by
  obtain ⟨y2, b1, b2, b3, b4, b5⟩ := h
  have hs := hk.size
  refine ⟨y2, b1, ⟨b2.1.trans hb.1, b2.2.trans hb.2⟩, b3, fun k hk2 => ?_, ⟨b5.os.trans hk.os, b5.tape.trans hk.tape, b5.output.trans hk.output, Nat.le_trans hk.size b5.size, fun k h1 hf => (b5.block k (by omega) (fun h2 => ?_)).trans (hk.block k h1 hf)⟩⟩
  · rcases b4 k hk2 with h | h
    · exact hm k h
    · exact .inr (by omega)
  · rcases hm k h2 with h | h
    · exact hf h
    · omega
theorem notes_in (l : List No) (h : ∀ n ∈ l, n.p.ok) (i j : Nat) (n : No) (hi : l[i]? = some n) (hj : j < 342) : (notes l)[i * 342 + j]? = n.cells[j]? := by
  have hil := (List.getElem?_eq_some_iff.1 hi).1
  rw [← notes_split l h i (by omega) j]
  have e : l.drop i = n :: l.drop (i + 1) := by
    rw [List.drop_eq_getElem_cons hil]
    congr 1
    have := (List.getElem?_eq_some_iff.1 hi).2
    exact this
  rw [e]
  show (n.cells ++ notes _)[j]? = _
  rw [List.getElem?_append_left (by rw [No.cells_len _ (h n (List.mem_of_getElem? hi))]; exact hj)]
theorem wv_in {W : World} {y : YS} (H : YAt W y) (h : 0 < y.way.length) : ∃ g cap, y.wv = .slice (some ⟨g, 0, none⟩) y.way.length cap := by
  rcases H.wr.2 with ⟨_, h0⟩ | ⟨g, cap, _, hv, _⟩
  · omega
  · exact ⟨g, cap, hv⟩
theorem note_at (y : YS) (w : World) (H : YAt w y) (i : Nat) (n : No) (hi : y.way[i]? = some n) :
    Calls Try.prog 37 #[.pointer (some ⟨y.yb, 2, none⟩), .int .i64 i] w fun r w' => r = .returned (.tuple #[n.val, .bool true]) ∧ Below w.heap.size w w' := by
  have hil := (List.getElem?_eq_some_iff.1 hi).1
  obtain ⟨g, cap, hv⟩ := wv_in H (by omega)
  have c2 := H.c2
  have hr := H.wr
  rw [hv] at c2 hr
  have hn := H.wok n (List.mem_of_getElem? hi)
  have hg := hr.lt g rfl
  refine notes_at_in y.yb 2 g y.way.length cap i n w c2 hil hn ?_ hg
  intro j v hjv
  have hj := (List.getElem?_eq_some_iff.1 hjv).1
  rw [No.cells_len _ hn] at hj
  refine hr.cells rfl _ _ ?_
  rw [notes_in y.way H.wok i j n hi hj]
  exact hjv
theorem note_at_out (y : YS) (w : World) (H : YAt w y) (i : Int) (hi : i < 0 ∨ (y.way.length : Int) ≤ i) :
    Calls Try.prog 37 #[.pointer (some ⟨y.yb, 2, none⟩), .int .i64 i] w fun r w' => r = .returned (.tuple #[No.zero.val, .bool false]) ∧ Below w.heap.size w w' := by
  have c2 := H.c2
  obtain ⟨a, cap, hv⟩ := H.wr.form
  rw [hv] at c2
  exact notes_at_out y.yb 2 y.way.length cap a i w c2 hi
theorem YAt.wv_ne {W : World} {y : YS} (H : YAt W y) : y.wv.ownBlock ≠ some y.yb := fun e => by
  have h1 := H.r5 _ e
  have h2 := H.r0
  omega
theorem YAt.fz {W : World} {y : YS} (H : YAt W y) (j : Nat) : W.frozen? ⟨y.yb, j, none⟩ = false := frozen_of_row _ _ j _ _ H.row
theorem drop_step (y : YS) (w : World) (H : YAt w y) (i : Nat) (hi : i < y.way.length) (hl : y.way.length ≤ 1000000) :
    Calls Try.prog 38 #[.pointer (some ⟨y.yb, 2, none⟩), .int .i64 i] w fun r w' => r = .returned (.tuple #[]) ∧ Step w w' y (y.abs.lose i) := by
  obtain ⟨g, cap, hv⟩ := wv_in H (by omega)
  have c2 := H.c2
  have hr := H.wr
  have hne := H.wv_ne
  rw [hv] at c2 hr hne
  refine (notes_drop y.yb 2 g y.way.length cap i w c2 (H.fz 2) hi hl y.way rfl H.wok hr (fun e => hne (by rw [e]; rfl))).mono ?_
  rintro r w' ⟨rfl, v', hc, hrow, hk, hown, hb⟩
  have hlen : (y.way.eraseIdx i).length = y.way.length - 1 := List.length_eraseIdx_of_lt hi
  rw [← hlen] at hrow
  have ht := H.turnWay v' (y.way.eraseIdx i) (hk.mono (fun k _ e => by rcases e with e | e; exact .inl e; exact .inr (by rw [hv, e]; rfl))) (hb _ _ H.row) hrow (fun n hn => H.wok n (List.mem_of_mem_eraseIdx hn))
    (fun k hk => by rcases hown k hk with e | e; exact .inl (by rw [hv, e]; rfl); exact .inr e)
  refine ⟨rfl, _, ht.1, ⟨rfl, rfl⟩, rfl, ht.2, hk.mono (fun k _ e => ?_)⟩
  rcases e with e | e
  · exact .inl e
  · exact .inr (.inr (.inr (.inr (.inr (.inl (by rw [hv, e]; rfl))))))
theorem put_step (y : YS) (w : World) (H : YAt w y) (new : List No) (v : Value) (hv : RowOf w 86 342 v new.length (notes new)) (hok : ∀ n ∈ new, n.p.ok) (hl : y.way.length + new.length ≤ 1000000) (hnil : new = [] → v = .slice none 0 0) :
    Calls Try.prog 35 #[.pointer (some ⟨y.yb, 2, none⟩), v] w fun r w' => r = .returned (.tuple #[]) ∧ Step w w' y { y.abs with way := y.way ++ new } := by
  rcases hv.2 with ⟨rfl, h0⟩ | ⟨g, cap, cur, rfl, hg, hnc, _⟩
  · have hn : new = [] := List.eq_nil_of_length_eq_zero h0
    refine (note_put_none y.yb 2 y.wv y.way w H.c2 (H.fz 2) H.wr H.wv_ne).mono ?_
    rintro r w' ⟨rfl, hc, hrow, hk, hb⟩
    have ht := H.turnWay y.wv y.way (hk.mono (fun k _ e => .inl e)) (hb _ _ H.row) hrow H.wok (fun k hk => .inl hk)
    refine ⟨rfl, _, ht.1, ⟨rfl, rfl⟩, ?_, ht.2, hk.mono (fun k _ e => .inl e)⟩
    rw [hn, List.append_nil]; rfl
  · have hpos : 0 < y.way.length + new.length := by
      have : new ≠ [] := fun e => by have := hnil e; simp at this
      have := List.length_pos_iff.2 this
      omega
    refine (note_put y.yb 2 y.wv y.way new ⟨g, 0, none⟩ cap w H.c2 (H.fz 2) H.wr H.wv_ne (fun j u hu => ?_) hok hl hpos).mono ?_
    · rw [Addr.add_lit, Nat.zero_add]
      exact hv.cells rfl j u hu
    · rintro r w' ⟨rfl, v', hc, hrow, hk, hown, hb⟩
      have ht := H.turnWay v' (y.way ++ new) hk (hb _ _ H.row) (by rw [List.length_append]; exact hrow) (fun n hn => by rcases List.mem_append.1 hn with h | h; exact H.wok n h; exact hok n h) hown
      refine ⟨rfl, _, ht.1, ⟨rfl, rfl⟩, rfl, ht.2, hk.mono (fun k _ e => ?_)⟩
      rcases e with e | e
      · exact .inl e
      · exact .inr (.inr (.inr (.inr (.inr (.inl e)))))
theorem Step.pre {w w1 w2 : World} {y : YS} {s : Ya} (hB : Below w.heap.size w w1) (h : Step w1 w2 y s) : Step w w2 y s := by
  obtain ⟨y2, b1, b2, b3, b4, b5⟩ := h
  have hs := hB.size
  refine ⟨y2, b1, b2, b3, fun k hk => ?_, (Kp.of_below hB).trans b5⟩
  rcases b4 k hk with h | h
  · exact .inl h
  · exact .inr (by omega)
/-- A note is laid into a new block. -/
theorem below_noted {w w1 : World} (hB : Below w.heap.size w w1) (n : No) : Below w.heap.size w ((w1.alloc (.cells No.zero.cells.toArray 86)).setCells w1.heap.size 0 n.cells) :=
  (hB.alloc hB.size _).trans ⟨(setCells_rest n.cells 0 _).1, (setCells_rest n.cells 0 _).2.1, (setCells_rest n.cells 0 _).2.2, by rw [setCells_size]; exact Nat.le_refl _, fun k hk => setCells_other (b := w1.heap.size) (by have := hB.size; omega) n.cells 0 _⟩
theorem there_noted (w1 : World) (n : No) (hn : n.p.ok) : (w1.alloc (.cells No.zero.cells.toArray 86)).there w1.heap.size 0 n.cells.toArray.size :=
  there_of_block (heap_alloc_new w1 (.cells No.zero.cells.toArray 86)) 0 n.cells.toArray.size (by rw [List.size_toArray, No.cells_len _ hn, List.size_toArray, No.cells_len _ Po.zero_ok]; decide)
theorem noteAt_noted (w1 : World) (n : No) (hn : n.p.ok) : NoteAt ((w1.alloc (.cells No.zero.cells.toArray 86)).setCells w1.heap.size 0 n.cells) w1.heap.size n :=
  ⟨row_stored (heap_alloc_new w1 _) (by rw [No.cells_len _ hn, List.size_toArray, No.cells_len _ Po.zero_ok])⟩
set_option maxHeartbeats 1000000 in
set_option maxRecDepth 10000 in
theorem yard_Lose_in (y : YS) (w : World) (H : YAt w y) (i : Nat) (hi : i < y.way.length) (hl : y.way.length ≤ 1000000) :
    Calls Try.prog 17 #[.pointer (some ⟨y.yb, 0, none⟩), .int .i64 i] w fun r w' => r = .returned (.bool true) ∧ Step w w' y (y.abs.lose i) := by
  obtain ⟨n, hn⟩ : ∃ n, y.way[i]? = some n := ⟨_, List.getElem?_eq_getElem hi⟩
  have HA := Bx.mk (note_at y w H i n hn)
  have HH := Bx.mk (And.intro H (And.intro hi hl))
  have hok := Bx.mk (H.wok n (List.mem_of_getElem? hn))
  have HI := Bx.mk (size86s n hok.out)
  have HO := Bx.mk (No.one n)
  have hz := fun w => zero86 w
  clear hn H hi hl
  unfold No.val at HA
  go_enter Try.func17, Try.ntmps17
  go_wp2_with (first
    | (go_at_call 37; refine HA.out.mono ?_; rintro r w1 ⟨rfl, hB⟩
       have HT := Bx.mk (there_noted w1 n hok.out)
       have hB2 := below_noted hB n
       clear hB)
    | (refine wpList_store_mid rfl 86 _ _ rfl w1.heap.size 0 _ rfl rfl HT.out HI.out HO.out ?_
       simp only [List.toList_toArray]
       generalize (w1.alloc (.cells No.zero.cells.toArray 86)).setCells w1.heap.size 0 n.cells = w2 at hB2 ⊢
       have HD := Bx.mk (drop_step y w2 (HH.out.1.kept (fun k hk => hB2.block k (HH.out.1.lt k hk))) i HH.out.2.1 HH.out.2.2)
       have HB2 := Bx.mk hB2
       clear hB2)
    | (go_at_call 38; refine HD.out.mono ?_; rintro r w3 ⟨rfl, hst⟩; have HS := Bx.mk (hst.pre HB2.out); clear hst))
  go_ret
  exact ⟨rfl, HS.out⟩
theorem yard_Lose_out (y : YS) (w : World) (H : YAt w y) (i : Int) (hi : i < 0 ∨ (y.way.length : Int) ≤ i) :
    Calls Try.prog 17 #[.pointer (some ⟨y.yb, 0, none⟩), .int .i64 i] w fun r w' => r = .returned (.bool false) ∧ Step w w' y y.abs := by
  have HA := Bx.mk (note_at_out y w H i hi)
  have HH := Bx.mk H
  have HI := Bx.mk (size86s No.zero Po.zero_ok)
  have HO := Bx.mk (No.one No.zero)
  have hz := fun w => zero86 w
  clear H hi
  unfold No.val at HA
  go_enter Try.func17, Try.ntmps17
  go_wp2_with (first
    | (go_at_call 37; refine HA.out.mono ?_; rintro r w1 ⟨rfl, hB⟩
       have HT := Bx.mk (there_noted w1 No.zero Po.zero_ok)
       have hB2 := below_noted hB No.zero
       clear hB)
    | (refine wpList_store_mid rfl 86 _ _ rfl w1.heap.size 0 _ rfl rfl HT.out HI.out HO.out ?_
       simp only [List.toList_toArray]
       generalize (w1.alloc (.cells No.zero.cells.toArray 86)).setCells w1.heap.size 0 No.zero.cells = w2 at hB2 ⊢))
  go_ret
  exact ⟨rfl, Step.of_below HH.out hB2⟩
end Go.Proofs.Ytimdaceidhdaeaa

namespace Go.Proofs.Ytimdaceidhdaeaa
open Go.RowKit Go.Proofs
structure STk (yb hb : Nat) (W : World) : Prop where
  ptr : W.cell? ⟨yb, 0, none⟩ = some (.pointer (some ⟨hb, 0, none⟩))
theorem says_ok (h : He) (hp : h.p.ok) : ∀ k, ∀ n ∈ h.says k, n.p.ok := by
  intro k
  induction k with
  | zero => intro n hn; simp [He.says] at hn
  | succ k ih =>
    intro n hn
    rcases List.mem_append.1 hn with hn | hn
    · exact ih n hn
    · unfold He.note at hn
      split at hn
      · simp at hn
      · split at hn
        · simp at hn; rw [hn]; exact Po.zero_ok
        · simp at hn; rw [hn]; exact hp
/-- What publish does, once for all. -/
def PubOk (h : He) : Prop := h.all = true → ∀ hb mb cb W, HeadAt W hb mb cb h → hb ≠ cb → Calls Try.prog 63 #[.pointer (some ⟨hb, 0, none⟩)] W fun r W' => r = .returned (.tuple #[]) ∧ HeadAt W' hb mb cb h.publish ∧ Kp (fun k => k = hb ∨ k = cb) W W'
theorem pub_none (h : He) (hq : h.q = []) : PubOk h := by
  intro _ hb mb cb W H _
  refine (head_publish_none hb mb cb h W H hq).mono ?_
  rintro r w' ⟨rfl, rfl⟩
  refine ⟨rfl, ?_, Kp.refl _ _⟩
  unfold He.publish
  rw [hq]; exact H
set_option maxHeartbeats 1000000 in
set_option maxRecDepth 10000 in
theorem yard_Tick (y : YS) (w : World) (H : YAt w y) (hP : PubOk y.h) (hlen : y.h.next.hs.length ≤ 16) (hv0 : 0 ≤ y.h.next.p.ver) (hv1 : y.h.next.p.ver ≤ 1000000) (hl : y.way.length ≤ 900000) :
    Calls Try.prog 13 #[.pointer (some ⟨y.yb, 0, none⟩)] w fun r w' => r = .returned (I y.abs.tick.way.length) ∧ Step w w' y y.abs.tick := by
  have hne : y.hb ≠ y.cb := fun e => by have h1 := H.r1; have h3 := H.r3; rw [e] at h1; omega
  have HS := Bx.mk (fun W (hH : HeadAt W y.hb y.mb y.cb y.h) => head_Send y.hb y.mb y.cb y.h y.h.next W hH hlen hv0 hv1 (fun ha W hW => by
    have := hP ha y.hb y.mb y.cb W hW hne
    rw [show y.h.next = y.h.publish by unfold He.next; rw [ha]; rfl]
    exact this) (fun ha => by unfold He.next; rw [ha]; rfl))
  have HH := Bx.mk (And.intro H (And.intro hl hlen))
  have hS0 : STk y.yb y.hb w := ⟨H.c0⟩
  clear H hP hlen hv0 hv1 hl hne
  go_enter Try.func13, Try.ntmps13
  go_wp2_with fail
  refine wp_region_noPanic ?_
  refine wp_region_held_drew (S := STk y.yb y.hb) (by kernel_rfl) ⟨hS0.ptr⟩ ?_
  intro hS
  have HH2 : Bx (YAt w.drew y) := ⟨HH.out.1.kept (fun _ _ => rfl)⟩
  have hkd : Kp y.mem w w.drew := ⟨rfl, rfl, rfl, Nat.le_refl _, fun _ _ _ => rfl⟩
  clear hS0
  generalize hX : w.drew = X at hS HH2 hkd ⊢
  have hsX : Bx (X.heap.size = w.heap.size) := ⟨by rw [← hX]; rfl⟩
  clear hX
  refine wpAnyH_take (i := 0) (v := ?_) rfl (by kernel_rfl) (by kernel_rfl) (by kernel_rfl) (fun _ _ _ h => h) (Or.inl ⟨by rfl, ?_⟩) (by assumption) ?_
  rotate_left
  · intro W1 h1; have d1 := h1.ptr; clear h1; go_simp; first | done | with_reducible rfl
  simp only [List.getElem_toArray, List.getElem_cons_succ, List.getElem_cons_zero, Act.put, List.setIfInBounds_toArray, List.set_cons_zero, List.set_cons_succ]
  refine wpAnyH_take (i := 1) (v := ?_) rfl (by kernel_rfl) (by kernel_rfl) (by kernel_rfl) (fun _ _ _ h => h) (Or.inl ⟨by rfl, ?_⟩) (by assumption) ?_
  rotate_left
  · intro W1 h1; have d1 := h1.ptr; clear h1; go_simp; first | done | with_reducible rfl
  simp only [List.getElem_toArray, List.getElem_cons_succ, List.getElem_cons_zero, Act.put, List.setIfInBounds_toArray, List.set_cons_zero, List.set_cons_succ]
  refine wpAnyH_take (i := 2) (v := ?_) rfl (by kernel_rfl) (by kernel_rfl) (by kernel_rfl) (fun _ _ _ h => h) (Or.inl ⟨by rfl, ?_⟩) (by assumption) ?_
  rotate_left
  · intro W1 h1; have d1 := h1.ptr; clear h1; go_simp; first | done | with_reducible rfl
  simp only [List.getElem_toArray, List.getElem_cons_succ, List.getElem_cons_zero, Act.put, List.setIfInBounds_toArray, List.set_cons_zero, List.set_cons_succ]
  refine wpAnyH_take (i := 3) (v := ?_) rfl (by kernel_rfl) (by kernel_rfl) (by kernel_rfl) (fun _ _ _ h => h) (Or.inl ⟨by rfl, ?_⟩) (by assumption) ?_
  rotate_left
  · intro W1 h1; have d1 := h1.ptr; clear h1; go_simp; first | done | with_reducible rfl
  simp only [List.getElem_toArray, List.getElem_cons_succ, List.getElem_cons_zero, Act.put, List.setIfInBounds_toArray, List.set_cons_zero, List.set_cons_succ]
  refine wpAnyH_take (i := 4) (v := ?_) rfl (by kernel_rfl) (by kernel_rfl) (by kernel_rfl) (fun _ _ _ h => h) (Or.inl ⟨by rfl, ?_⟩) (by assumption) ?_
  rotate_left
  · intro W1 h1; have d1 := h1.ptr; clear h1; go_simp; first | done | with_reducible rfl
  simp only [List.getElem_toArray, List.getElem_cons_succ, List.getElem_cons_zero, Act.put, List.setIfInBounds_toArray, List.set_cons_zero, List.set_cons_succ]
  refine wpAnyH_take (i := 5) (v := ?_) rfl (by kernel_rfl) (by kernel_rfl) (by kernel_rfl) (fun _ _ _ h => h) (Or.inl ⟨by rfl, ?_⟩) (by assumption) ?_
  rotate_left
  · intro W1 h1; have d1 := h1.ptr; clear h1; go_simp; first | done | with_reducible rfl
  simp only [List.getElem_toArray, List.getElem_cons_succ, List.getElem_cons_zero, Act.put, List.setIfInBounds_toArray, List.set_cons_zero, List.set_cons_succ]
  refine wpAnyH_take (i := 6) (v := ?_) rfl (by kernel_rfl) (by kernel_rfl) (by kernel_rfl) (fun _ _ _ h => h) (Or.inl ⟨by rfl, ?_⟩) (by assumption) ?_
  rotate_left
  · intro W1 h1; have d1 := h1.ptr; clear h1; go_simp; first | done | with_reducible rfl
  simp only [List.getElem_toArray, List.getElem_cons_succ, List.getElem_cons_zero, Act.put, List.setIfInBounds_toArray, List.set_cons_zero, List.set_cons_succ]
  refine wpAnyH_ready (rs := [7]) (by kernel_rfl) (by simp) ?_
  refine AllReadyH.cons rfl (fun K hK => ?_) AllReadyH.nil
  clear hS
  go_simp
  refine (HS.out X HH2.out.head).mono ?_
  rintro e W ⟨v, rfl, hh, hr, hk, hown, hnil⟩
  have hY : YAt W { y with h := y.h.next } := HH2.out.turnHead _ (hk.mono (fun k _ e => by rcases e with e | e; exact .inl e; exact .inr (.inr e))) hh
  have hPut := Bx.mk (put_step { y with h := y.h.next } W hY (y.h.next.says y.h.next.hs.length) v hr (says_ok _ hh.ok _) (by have := says_len y.h.next y.h.next.hs.length; have := HH.out.2; show y.way.length + _ ≤ _; omega) hnil)
  have hkw : Kp y.mem w W := hkd.trans (hk.mono (fun k _ e => by rcases e with e | e; exact .inr (.inl e); exact .inr (.inr (.inr (.inl e)))))
  have HST := Bx.mk (And.intro hkw hY)
  refine hK.out _ _ ⟨hY.c0⟩ (fun hS => ?_)
  clear hK K hkw hkd hY hh hr hk hown hnil HS
  try simp only [List.getElem_toArray, List.getElem_cons_succ, List.getElem_cons_zero, Act.put, List.setIfInBounds_toArray, List.set_cons_zero, List.set_cons_succ]
  refine wpAnyH_ready (rs := [8]) (by kernel_rfl) (by simp) ?_
  refine AllReadyH.cons rfl (fun K hK => ?_) AllReadyH.nil
  clear hS
  go_simp
  refine hPut.out.mono ?_
  rintro e W2 ⟨rfl, hst2⟩
  have hfin : Step w W2 y y.abs.tick := Step.after HST.out.1 (fun k hm => .inl hm) ⟨rfl, rfl⟩ hst2
  clear hst2
  obtain ⟨y2, hy2, hn2, ha2, hm2, hk2⟩ := hfin
  refine hK.out _ _ ⟨by have := hy2.c0; rw [hn2.1, hn2.2] at this; exact this⟩ (fun _ => ?_)
  clear hK K
  refine wpAnyH_done (by kernel_rfl) ?_ _
  refine NoPanic.normal ?_
  have HN := Bx.mk (yard_Notes y2 W2 hy2)
  rw [hn2.1] at HN
  have HF := Bx.mk (show Step w W2 y y.abs.tick from ⟨y2, hy2, hn2, ha2, hm2, hk2⟩)
  have hw : Bx (y2.way.length = y.abs.tick.way.length) := ⟨by rw [← ha2]; rfl⟩
  rw [hw.out] at HN
  clear hy2 hn2 ha2 hm2 hk2
  go_wp2_with (go_at_call 16; refine HN.out.mono ?_; rintro r w9 ⟨rfl, rfl⟩)
  go_ret
  exact ⟨rfl, HF.out⟩
end Go.Proofs.Ytimdaceidhdaeaa

namespace Go.Proofs.Ytimdaceidhdaeaa
open Go.RowKit Go.Proofs
theorem Un.set_p (u : Un) (hu : u.p.ok) (p : Po) (hp : p.ok) : spl u.cells.toArray 1 p.cells = ({ u with p := p } : Un).cells.toArray := by
  have e2 := spl_mid [.pointer (some ⟨u.pb, 0, none⟩)] u.p.cells p.cells [I u.boot, .chan (some u.ch)] (by rw [Po.cells_len _ hp, Po.cells_len _ hu])
  exact e2
theorem Un.set_boot (u : Un) (hu : u.p.ok) (v : Int) : u.cells.toArray.setIfInBounds 331 (I v) = ({ u with boot := v } : Un).cells.toArray := by
  simp only [Un.cells, List.setIfInBounds_toArray]
  rw [List.set_cons_succ, List.set_append_right _ _ (by rw [Po.cells_len _ hu]; exact Nat.le_refl _), Po.cells_len _ hu]
  rfl
theorem build_pool0 (w : World) : (Instr.build 33 #[]).run Try.prog w = .ok (.agg Po.zero.cells.toArray) w := build_zero w
theorem Step.unit {w w' : World} {y : YS} (H : YAt w y) (i : Nat) (x x' : Us) (hi : y.us[i]? = some x) (hs : Us.sm x x') (hk : Kp x.mem w w') (hu : UnB w' x' []) : Step w w' y { y.abs with us := y.abs.us.set i x'.abs } := by
  refine ⟨_, H.turnUnit i x x' hi hs hk hu, ⟨rfl, rfl⟩, ?_, fun k hm => .inl (YAt.mem_unit i x x' hi hs k hm), hk.mono (fun k _ hm => .inr (.inr (.inr (.inr (.inr (.inr ⟨x, List.mem_iff_getElem?.2 ⟨i, hi⟩, hm⟩))))))⟩
  unfold YS.abs
  simp [List.map_set]
theorem abs_at {y : YS} {i : Nat} {x : Us} (hi : y.us[i]? = some x) (d : Uu) : y.abs.us.getD i d = x.abs := by
  unfold YS.abs
  simp [List.getD_eq_getElem?_getD, hi]
set_option maxHeartbeats 1000000 in
set_option maxRecDepth 10000 in
theorem yard_Crash (y : YS) (w : World) (H : YAt w y) (hl : y.us.length < 1000) (i : Nat) (x : Us) (hi : y.us[i]? = some x) (hb0 : 0 ≤ x.un.boot) (hb1 : x.un.boot ≤ 1000000) :
    Calls Try.prog 18 #[.pointer (some ⟨y.yb, 0, none⟩), .int .i64 i] w fun r w' => r = .returned (.bool true) ∧ Step w w' y (y.abs.crash i) := by
  have hu := H.un x (List.mem_iff_getElem?.2 ⟨i, hi⟩)
  have HU := Bx.mk (unit_at y w H hl i x hi)
  have c0 : w.cell? ⟨x.ub, 0, none⟩ = some (.pointer (some ⟨x.un.pb, 0, none⟩)) := by rw [cell_of_row _ _ _ _ _ _ hu.u]; rfl
  have HC := Bx.mk (plane_Crash x.un.pb x.pl w hu.p hu.ok1)
  have HH := Bx.mk (And.intro H (And.intro hi hu))
  have HI := Bx.mk (size33s Po.zero Po.zero_ok)
  have HO := Bx.mk (Po.one Po.zero)
  have hwr : IntKind.i64.wrap (x.un.boot + 1) = x.un.boot + 1 := IntWalk.i64_in _ (by omega)
  have hq := Bx.mk hi
  clear hu H hi
  go_enter Try.func18, Try.ntmps18
  go_wp2_with (first
    | (go_at_call 40; refine HU.out.mono ?_; rintro r w' ⟨rfl, rfl⟩)
    | (go_at_call 43; refine HC.out.mono ?_; rintro r w1 ⟨rfl, hk1, hp1⟩
       have hu1 : unitAt w1 x.ub x.un := (hk1.block _ (heap_lt HH.out.2.2.u) HH.out.2.2.ne.1).trans HH.out.2.2.u
       have HT := Bx.mk (there_of_block hu1 1 Po.zero.cells.toArray.size (by rw [List.size_toArray, Po.cells_len _ Po.zero_ok, List.size_toArray, Un.cells_len _ HH.out.2.2.ok2]; decide))
       have HE := Bx.mk (And.intro hk1 (And.intro hp1 hu1))
       clear hk1 hp1 hu1)
    | (refine wpList_run_build rfl 33 _ rfl (.agg Po.zero.cells.toArray) ?_ ?_; (simp only [List.map_toArray, List.map_nil]; exact build_pool0 _))
    | (refine wpList_store_mid rfl 33 _ _ rfl x.ub 1 _ rfl rfl HT.out HI.out HO.out ?_
       simp only [List.toList_toArray]
       have hk2 := Kp.cells (b := x.ub) 1 Po.zero.cells w1
       have hu2 : unitAt (w1.setCells x.ub 1 Po.zero.cells) x.ub { x.un with p := Po.zero } := by have := setCells_block Po.zero.cells 1 _ _ HE.out.2.2; rw [Un.set_p _ HH.out.2.2.ok2 _ Po.zero_ok] at this; exact this
       have HE2 := Bx.mk (And.intro hk2 hu2)
       clear hk2 hu2
       generalize w1.setCells x.ub 1 Po.zero.cells = w2 at HE2 ⊢
       have c5 : w2.cell? ⟨x.ub, 331, none⟩ = some (I x.un.boot) := (by rw [cell_of_row _ _ _ _ _ _ HE2.out.2, List.getElem?_toArray, Un.cells, List.getElem?_cons_succ, List.getElem?_append_right (by rw [Po.cells_len _ Po.zero_ok]; exact Nat.le_refl _), Po.cells_len _ Po.zero_ok]; rfl)
       have f5 := frozen_of_row _ _ 331 _ _ HE2.out.2))
  have hlt := HH.out.2.2.lt
  have hne := HH.out.2.2.ne
  obtain ⟨s, r, hc⟩ := HH.out.2.2.c
  have hk3 := Kp.setCell (F := fun k => k = x.ub) (w := w2) (p := ⟨x.ub, 331, none⟩) rfl (.int .i64 (x.un.boot + 1))
  have hk23 := HE2.out.1.trans hk3
  have hs1 := HE.out.1.size
  have hu3 : unitAt (w2.setCell ⟨x.ub, 331, none⟩ (.int .i64 (x.un.boot + 1))) x.ub { x.un with p := Po.zero, boot := x.un.boot + 1 } := by
    have := setCell_block HE2.out.2 331 (.int .i64 (x.un.boot + 1))
    rw [Un.set_boot _ Po.zero_ok] at this
    exact this
  have hU : UnB (w2.setCell ⟨x.ub, 331, none⟩ (.int .i64 (x.un.boot + 1))) ⟨x.ub, { x.un with p := Po.zero, boot := x.un.boot + 1 }, Pl.zero⟩ [] := by
    refine ⟨hu3, ?_, ⟨s, r, ?_⟩, Pl.zero_ok, Po.zero_ok, fun e => by simp [Pl.zero] at e, fun _ => rfl, hne⟩
    · exact (hk23.block _ (heap_lt HE.out.2.1) (fun e => hne.1 e.symm)).trans HE.out.2.1
    · have h1 := HE.out.1.block _ (heap_lt hc) (fun e => hne.2.2 e.symm)
      exact (hk23.block _ (by have := heap_lt hc; omega) (fun e => hne.2.1 e.symm)).trans (h1.trans hc)
  have hK : Kp x.mem w' (w2.setCell ⟨x.ub, 331, none⟩ (.int .i64 (x.un.boot + 1))) := (HE.out.1.mono (fun k _ e => .inr (.inl e))).trans (hk23.mono (fun k _ e => .inl e))
  have hst := Step.unit HH.out.1 i x ⟨x.ub, { x.un with p := Po.zero, boot := x.un.boot + 1 }, Pl.zero⟩ hq.out ⟨rfl, rfl, rfl⟩ hK hU
  have he : ({ y.abs with us := y.abs.us.set i (Us.abs ⟨x.ub, { x.un with p := Po.zero, boot := x.un.boot + 1 }, Pl.zero⟩) } : Ya) = y.abs.crash i := by
    unfold Ya.crash
    rw [abs_at hq.out]
    rfl
  rw [he] at hst
  have HST := Bx.mk hst
  clear hst he hK hU hu3 hk23 hk3 hc
  go_ret
  exact ⟨rfl, HST.out⟩
end Go.Proofs.Ytimdaceidhdaeaa
