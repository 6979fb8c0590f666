/- Proved: lemmas that the law's proof stands on (Ref6d, Ref6e, Ref6f, Ref6g, Ref6h). Conditions: as each states. -/
import Derived.Test.YtimdaceidhdaeaaLawTwice01

namespace Go.Proofs.Ytimdaceidhdaeaa
open Go.RowKit Go.Proofs

theorem heap_lt {w : World} {b : Nat} {o : Obj} (h : w.heap[b]? = some o) : b < w.heap.size := (Array.getElem?_eq_some_iff.1 h).1
theorem below_block {w w' : World} {b : Nat} {o : Obj} (hb : Below w.heap.size w w') (h : w.heap[b]? = some o) : w'.heap[b]? = some o := (hb.block _ (heap_lt h)).trans h
/-- What Apply has boxed. -/
structure ApE (w wr : World) (p : Po) (e : En) : Prop where
  below : Below w.heap.size w wr
  b0 : wr.heap[w.heap.size]? = some (.cells p.cells.toArray 33 (0, 0))
  b1 : wr.heap[w.heap.size + 1]? = some (.cells #[I e.ki, I e.sl, I e.ad, I e.po, I e.we, U e.ke.a, U e.ke.b] 53 (0, 0))
  b2 : wr.heap[w.heap.size + 1 + 1]? = some (.cells Po.zero.cells.toArray 33 (0, 0))
theorem ApE.start (w : World) (p : Po) (e : En) : ApE w (((w.alloc (.cells p.cells.toArray 33)).alloc (.cells #[I e.ki, I e.sl, I e.ad, I e.po, I e.we, U e.ke.a, U e.ke.b] 53)).alloc (.cells Po.zero.cells.toArray 33)) p e :=
  ⟨(((Below.refl _ _).alloc (Nat.le_refl _) _).alloc (by simp) _).alloc (by simp; omega) _, heap_old_at (by simp; omega) (heap_old_at (by simp) (heap_new_at rfl)), heap_old_at (by simp) (heap_new_at (by simp)), heap_new_at (by simp)⟩
theorem ApE.trans {w wr w' : World} {p : Po} {e : En} (h : ApE w wr p e) (hb : Below wr.heap.size wr w') : ApE w w' p e :=
  ⟨h.below.trans (hb.mono h.below.size), below_block hb h.b0, below_block hb h.b1, below_block hb h.b2⟩
theorem ApE.size {w wr : World} {p : Po} {e : En} (h : ApE w wr p e) : w.heap.size + 1 + 1 < wr.heap.size := heap_lt h.b2
theorem ApE.e_cells {w wr : World} {p : Po} {e : En} (h : ApE w wr p e) :
    wr.cell? ⟨w.heap.size + 1, 0, none⟩ = some (I e.ki) ∧ wr.cell? ⟨w.heap.size + 1, 1, none⟩ = some (I e.sl) ∧ wr.cell? ⟨w.heap.size + 1, 2, none⟩ = some (I e.ad) ∧ wr.cell? ⟨w.heap.size + 1, 3, none⟩ = some (I e.po) ∧
    wr.cell? ⟨w.heap.size + 1, 4, none⟩ = some (I e.we) ∧ wr.cell? ⟨w.heap.size + 1, 5, none⟩ = some (U e.ke.a) ∧ wr.cell? ⟨w.heap.size + 1, 6, none⟩ = some (U e.ke.b) := by
  refine ⟨?_, ?_, ?_, ?_, ?_, ?_, ?_⟩ <;> rw [cell_of_row _ _ _ _ _ _ h.b1] <;> rfl

set_option maxHeartbeats 2000000 in
theorem ref6_Apply_1 (p : Po) (e : En) (w : World) (he : enCheck e ≠ 0) : Calls Try.prog 31 #[p.v, e.v] w fun r w' => r = .returned (.tuple #[Po.zero.v, I (enCheck e)]) ∧ Below w.heap.size w w' := by
  have hz := fun w => zero33 w
  have HC := Bx.mk (fun W => ref6_Check e W)
  have hn : (enCheck e != 0) = true := bne_iff_ne.2 he
  generalize enCheck e = er at HC hn ⊢
  clear he
  have HI := Lib.hid (size33s Po.zero Po.zero_ok)
  have HO := Lib.hid (Po.one Po.zero)
  unfold Po.v En.v En.cells
  unfold En.v En.cells at HC
  go_enter Try.func31, Try.ntmps31
  go_wp2_with (first
    | (go_at_call 59; refine (HC.out _).mono ?_; rintro r w3 ⟨rfl, hb3⟩; have HE := (ApE.start w p e).trans hb3; clear hb3; have HT := Lib.hid (there_of_block HE.b2 0 Po.zero.cells.toArray.size (by simp)); have HR := Lib.hid (row_stored HE.b2 (vs := Po.zero.cells) (by simp)); have hl := HE.size)
    | (refine wpList_run_build rfl 33 _ rfl Po.zero.v ?_ ?_; (simp only [List.map_toArray, List.map_nil]; exact build_zero _); unfold Po.v)
    | (refine wpList_store_mid rfl 33 _ _ rfl (w.heap.size + 1 + 1) 0 _ rfl rfl HT.out HI.out HO.out ?_))
  exact bodyPost_ret (results_cell_tmp Try.results31 _ _ (w.heap.size + 1 + 1) _ _ (I er) rfl rfl (pool_range HR.out) Try.underlying33 rfl (size33 _ Po.zero_ok)) rfl ⟨rfl, below_setCells HE.below (by omega) _ _⟩

theorem enCheck_sl {e : En} (h : enCheck e = 0) : 0 ≤ e.sl ∧ e.sl < 64 ∧ 1 ≤ e.ki ∧ e.ki ≤ 6 := by
  unfold enCheck at h
  split at h; · simp at h
  split at h; · simp at h
  omega
theorem Check_ok {e : En} (h : enCheck e = 0) (W : World) : Calls Try.prog 59 #[.agg #[I e.ki, I e.sl, I e.ad, I e.po, I e.we, U e.ke.a, U e.ke.b]] W fun r w' => r = .returned (I 0) ∧ Below W.heap.size W w' := by
  have := ref6_Check e W
  rw [h] at this
  exact this
theorem bad_as {p : Po} {e : En} {b : Bool} (hp : p.ok) (h : enCheck e = 0) (hb : badB p e = b) (W : World) : Calls Try.prog 60 #[.agg p.cells.toArray, .agg #[I e.ki, I e.sl, I e.ad, I e.po, I e.we, U e.ke.a, U e.ke.b]] W fun r w' => r = .returned (.bool b) ∧ Below W.heap.size W w' := by
  have := ref6_bad p e W hp (enCheck_sl h).1 (enCheck_sl h).2.1
  rw [hb] at this
  exact this
set_option maxHeartbeats 2000000 in
theorem ref6_Apply_2 (p : Po) (e : En) (w : World) (hp : p.ok) (he : enCheck e = 0) (hb : badB p e = true) : Calls Try.prog 31 #[p.v, e.v] w fun r w' => r = .returned (.tuple #[Po.zero.v, I 12]) ∧ Below w.heap.size w w' := by
  have hz := fun w => zero33 w
  have HC := Bx.mk (fun W => Check_ok he W)
  have HD := Bx.mk (fun W => bad_as hp he hb W)
  clear he hb
  have HI := Lib.hid (size33s Po.zero Po.zero_ok)
  have HJ := Lib.hid (size33 p hp)
  have HO := Lib.hid (Po.one Po.zero)
  unfold Po.v En.v En.cells
  go_enter Try.func31, Try.ntmps31
  go_wp2_with (first
    | (go_at_call 59; refine (HC.out _).mono ?_; rintro r w3 ⟨rfl, hb3⟩; have HE := (ApE.start w p e).trans hb3; clear hb3; have HR0 := Lib.hid (pool_range HE.b0); obtain ⟨e0, e1, e2, e3, e4, e5, e6⟩ := HE.e_cells)
    | (go_at_call 60; refine (HD.out _).mono ?_; rintro r w4 ⟨rfl, hb4⟩; have HE4 := HE.trans hb4; clear hb4; have HT := Lib.hid (there_of_block HE4.b2 0 Po.zero.cells.toArray.size (by simp)); have HR := Lib.hid (row_stored HE4.b2 (vs := Po.zero.cells) (by simp)); have hl := HE4.size)
    | (refine wpList_load_mid rfl 33 _ rfl w.heap.size 0 rfl p.cells _ HR0.out Try.underlying33 rfl HJ.out ?_)
    | (refine wpList_run_build rfl 33 _ rfl Po.zero.v ?_ ?_; (simp only [List.map_toArray, List.map_nil]; exact build_zero _); unfold Po.v)
    | (refine wpList_store_mid rfl 33 _ _ rfl (w.heap.size + 1 + 1) 0 _ rfl rfl HT.out HI.out HO.out ?_))
  exact bodyPost_ret (results_cell_tmp Try.results31 _ _ (w.heap.size + 1 + 1) _ _ (I 12) rfl rfl (pool_range HR.out) Try.underlying33 rfl (size33 _ Po.zero_ok)) rfl ⟨rfl, below_setCells HE4.below (by omega) _ _⟩
set_option maxHeartbeats 2000000 in
theorem ref6_Apply_3 (p : Po) (e : En) (w : World) (hp : p.ok) (he : enCheck e = 0) (hb : badB p e = false) (hs : soonB p e = true) (hs0 : 0 ≤ (p.slot e.sl.toNat).si) (hs1 : (p.slot e.sl.toNat).si ≤ 1000000) : Calls Try.prog 31 #[p.v, e.v] w fun r w' => r = .returned (.tuple #[Po.zero.v, I 13]) ∧ Below w.heap.size w w' := by
  have hz := fun w => zero33 w
  have HC := Bx.mk (fun W => Check_ok he W)
  have HD := Bx.mk (fun W => bad_as hp he hb W)
  obtain ⟨g0, g1, _, _⟩ := enCheck_sl he
  clear he hb
  have HI := Lib.hid (size33s Po.zero Po.zero_ok)
  have HJ := Lib.hid (size33 p hp)
  have HO := Lib.hid (Po.one Po.zero)
  have HK := Bx.mk (fun (W : World) (h : W.heap[w.heap.size]? = some (.cells p.cells.toArray 33 (0, 0))) => (slot_cells h hp e.sl.toNat (by omega)).2.2.2.2)
  have HL := Bx.mk (fun (W : World) (h : W.heap[w.heap.size]? = some (.cells p.cells.toArray 33 (0, 0))) => (pool_cells h hp).2.2.2)
  unfold soonB at hs
  generalize (p.slot e.sl.toNat).si = si at hs hs0 hs1 HK
  have hs2 := of_decide_eq_true hs
  have k5 : (e.ki == 5) = true := beq_iff_eq.2 hs2.1
  have k6 : IntKind.i64.wrap (si + 3) = si + 3 := IntWalk.i64_in _ (by omega)
  have k7 : decide (p.ep < si + 3) = true := decide_eq_true hs2.2
  clear hs hs0 hs1 hs2
  unfold Po.v En.v En.cells
  go_enter Try.func31, Try.ntmps31
  go_wp2_with (first
    | (go_at_call 59; refine (HC.out _).mono ?_; rintro r w3 ⟨rfl, hb3⟩; have HE := (ApE.start w p e).trans hb3; clear hb3; have HR0 := Lib.hid (pool_range HE.b0); obtain ⟨e0, e1, e2, e3, e4, e5, e6⟩ := HE.e_cells)
    | (go_at_call 60; refine (HD.out _).mono ?_; rintro r w4 ⟨rfl, hb4⟩; have HE4 := HE.trans hb4; clear hb4; clear e0 e1 e2 e3 e4 e5 e6; have HT := Lib.hid (there_of_block HE4.b2 0 Po.zero.cells.toArray.size (by simp)); have hl := HE4.size; obtain ⟨e0, e1, e2, e3, e4, e5, e6⟩ := HE4.e_cells; have q1 := HK.out _ HE4.b0; have q2 := HL.out _ HE4.b0)
    | (refine wpList_load_mid rfl 33 _ rfl w.heap.size 0 rfl p.cells _ HR0.out Try.underlying33 rfl HJ.out ?_)
    | (refine wpList_run_build rfl 33 _ rfl Po.zero.v ?_ ?_; (simp only [List.map_toArray, List.map_nil]; exact build_zero _); unfold Po.v)
    | (refine wpList_store_mid rfl 33 _ _ rfl (w.heap.size + 1 + 1) 0 _ rfl rfl HT.out HI.out HO.out ?_))
  go_quiet (fail)
  have HR := Lib.hid (row_stored (w := w4.drewN nq) (t := 33) (C := Po.zero.cells.toArray) HE4.b2 (vs := Po.zero.cells) (by simp))
  go_wp2_with (first
    | (refine wpList_run_build rfl 33 _ rfl Po.zero.v ?_ ?_; (simp only [List.map_toArray, List.map_nil]; exact build_zero _); unfold Po.v)
    | (refine wpList_store_mid rfl 33 _ _ rfl (w.heap.size + 1 + 1) 0 _ rfl rfl (show (w4.drewN nq).there _ _ _ from HT.out) HI.out HO.out ?_))
  exact bodyPost_ret (results_cell_tmp Try.results31 _ _ (w.heap.size + 1 + 1) _ _ (I 13) rfl rfl (pool_range HR.out) Try.underlying33 rfl (size33 _ Po.zero_ok)) rfl ⟨rfl, below_setCells (bdN HE4.below nq) (by omega) _ _⟩
end Go.Proofs.Ytimdaceidhdaeaa

namespace Go.Proofs.Ytimdaceidhdaeaa
open Go.RowKit Go.Proofs
theorem ApE.drewN {w wr : World} {p : Po} {e : En} (h : ApE w wr p e) (n : Nat) : ApE w (wr.drewN n) p e := ⟨bdN h.below n, h.b0, h.b1, h.b2⟩
structure ApF (w W : World) (p : Po) : Prop where
  below : Below w.heap.size w W
  b0 : W.heap[w.heap.size]? = some (.cells p.cells.toArray 33 (0, 0))
  b2 : W.heap[w.heap.size + 1 + 1]? = some (.cells Po.zero.cells.toArray 33 (0, 0))
theorem setCell_block {b : Nat} {t : TypeId} {fz : Nat × Nat} {w : World} {C : Array Value} (h : w.heap[b]? = some (.cells C t fz)) (j : Nat) (v : Value) :
    (w.setCell ⟨b, j, none⟩ v).heap[b]? = some (.cells (C.setIfInBounds j v) t fz) := (Put.refl h).setCell j v |>.get
theorem setCell_else {b k : Nat} {w : World} {o : Obj} (h : w.heap[k]? = some o) (hk : k ≠ b) (j : Nat) (v : Value) : (w.setCell ⟨b, j, none⟩ v).heap[k]? = some o := by
  rw [Below.heap_setCell _ _ _ _ hk]; exact h
theorem setCell_sz {b : Nat} {w : World} (j : Nat) (v : Value) : (w.setCell ⟨b, j, none⟩ v).heap.size = w.heap.size := by simp
theorem Po.set_cells (p : Po) (hp : p.ok) (v : Int) (k : Nat) (hk : k < 64) (s : Sl) :
    ((((((p.cells.toArray.setIfInBounds 0 (I v)).setIfInBounds (3 + k * 5) (I s.st)).setIfInBounds (3 + k * 5 + 1) (I s.ad)).setIfInBounds (3 + k * 5 + 2) (I s.po)).setIfInBounds (3 + k * 5 + 3) (I s.we)).setIfInBounds (3 + k * 5 + 4) (I s.si)) =
      ({ p with ver := v, sl := p.sl.set k s } : Po).cells.toArray := by
  have hq : ({ p with ver := v, sl := p.sl.set k s } : Po).ok := ⟨by simp [hp.len]⟩
  apply Array.ext
  · simp [Po.cells_len _ hp, Po.cells_len _ hq]
  intro i h1 h2
  have hi : i < 330 := by simpa [Po.cells_len _ hq] using h2
  apply Option.some.inj
  rw [← Array.getElem?_eq_getElem h1, ← Array.getElem?_eq_getElem h2]
  simp only [Array.getElem?_setIfInBounds, Array.size_setIfInBounds, List.size_toArray, Po.cells_len _ hp, List.getElem?_toArray]
  by_cases c0 : i < 3
  · have : i = 0 ∨ i = 1 ∨ i = 2 := by omega
    rw [if_neg (by omega), if_neg (by omega), if_neg (by omega), if_neg (by omega), if_neg (by omega)]
    rcases this with rfl | rfl | rfl
    · simp [Po.cells]
    · simp [Po.cells]
    · simp [Po.cells]
  · by_cases c1 : i < 323
    · obtain ⟨m, j, hm, hj, rfl⟩ : ∃ m j, m < 64 ∧ j < 5 ∧ i = 3 + (5 * m + j) := ⟨(i - 3) / 5, (i - 3) % 5, by omega, by omega, by omega⟩
      rw [Po.at_slot _ m j hp hm hj, Po.at_slot _ m j hq hm hj]
      by_cases e : k = m
      · subst e
        have hs : ({ p with ver := v, sl := p.sl.set k s } : Po).slot k = s := by
          unfold Po.slot
          simp [List.getD_eq_getElem?_getD, hp.len, hk]
        rw [hs]
        have : j = 0 ∨ j = 1 ∨ j = 2 ∨ j = 3 ∨ j = 4 := by omega
        rcases this with rfl | rfl | rfl | rfl | rfl
        · rw [if_neg (by omega), if_neg (by omega), if_neg (by omega), if_neg (by omega), if_pos (by omega), if_pos (by omega)]; rfl
        · rw [if_neg (by omega), if_neg (by omega), if_neg (by omega), if_pos (by omega), if_pos (by omega)]; rfl
        · rw [if_neg (by omega), if_neg (by omega), if_pos (by omega), if_pos (by omega)]; rfl
        · rw [if_neg (by omega), if_pos (by omega), if_pos (by omega)]; rfl
        · rw [if_pos (by omega), if_pos (by omega)]; rfl
      · have hs : ({ p with ver := v, sl := p.sl.set k s } : Po).slot m = p.slot m := by
          unfold Po.slot
          simp [List.getD_eq_getElem?_getD, List.getElem?_set, e]
        rw [hs, if_neg (by omega), if_neg (by omega), if_neg (by omega), if_neg (by omega), if_neg (by omega), if_neg (by omega)]
    · obtain ⟨j, rfl⟩ : ∃ j, i = 323 + j := ⟨i - 323, by omega⟩
      rw [if_neg (by omega), if_neg (by omega), if_neg (by omega), if_neg (by omega), if_neg (by omega), if_neg (by omega)]
      rw [Po.at_ring _ j hp, Po.at_ring _ j hq]
theorem ApF.slot {w w5 : World} {p : Po} {e : En} (h : ApE w w5 p e) (hp : p.ok) (v : Int) (k : Nat) (hk : k < 64) (s : Sl) (o : Obj) :
    ApF w (((((((w5.setCell ⟨w.heap.size, 0, none⟩ (I v)).setCell ⟨w.heap.size, 3 + k * 5, none⟩ (I s.st)).setCell ⟨w.heap.size, 3 + k * 5 + 1, none⟩ (I s.ad)).setCell ⟨w.heap.size, 3 + k * 5 + 2, none⟩ (I s.po)).setCell
      ⟨w.heap.size, 3 + k * 5 + 3, none⟩ (I s.we)).setCell ⟨w.heap.size, 3 + k * 5 + 4, none⟩ (I s.si)).alloc o) { p with ver := v, sl := p.sl.set k s } := by
  have hl := h.size
  have hc := Bx.mk (Po.set_cells p hp v k hk s)
  generalize ({ p with ver := v, sl := p.sl.set k s } : Po) = p' at hc ⊢
  have h0 := setCell_block (setCell_block (setCell_block (setCell_block (setCell_block (setCell_block h.b0 0 (I v)) (3 + k * 5) (I s.st)) (3 + k * 5 + 1) (I s.ad)) (3 + k * 5 + 2) (I s.po)) (3 + k * 5 + 3) (I s.we)) (3 + k * 5 + 4) (I s.si)
  rw [hc.out] at h0
  have h2 := setCell_else (setCell_else (setCell_else (setCell_else (setCell_else (setCell_else h.b2 (b := w.heap.size) (by omega) 0 (I v)) (b := w.heap.size) (by omega) (3 + k * 5) (I s.st)) (b := w.heap.size) (by omega) (3 + k * 5 + 1) (I s.ad)) (b := w.heap.size) (by omega) (3 + k * 5 + 2) (I s.po)) (b := w.heap.size) (by omega) (3 + k * 5 + 3) (I s.we)) (b := w.heap.size) (by omega) (3 + k * 5 + 4) (I s.si)
  have hB := (((((h.below.setCell (p := ⟨w.heap.size, 0, none⟩) (Nat.le_refl _) (I v)).setCell (p := ⟨w.heap.size, 3 + k * 5, none⟩) (Nat.le_refl _) (I s.st)).setCell (p := ⟨w.heap.size, 3 + k * 5 + 1, none⟩) (Nat.le_refl _) (I s.ad)).setCell (p := ⟨w.heap.size, 3 + k * 5 + 2, none⟩) (Nat.le_refl _) (I s.po)).setCell (p := ⟨w.heap.size, 3 + k * 5 + 3, none⟩) (Nat.le_refl _) (I s.we)).setCell (p := ⟨w.heap.size, 3 + k * 5 + 4, none⟩) (Nat.le_refl _) (I s.si)
  generalize ((((((w5.setCell ⟨w.heap.size, 0, none⟩ (I v)).setCell ⟨w.heap.size, 3 + k * 5, none⟩ (I s.st)).setCell ⟨w.heap.size, 3 + k * 5 + 1, none⟩ (I s.ad)).setCell ⟨w.heap.size, 3 + k * 5 + 2, none⟩ (I s.po)).setCell
      ⟨w.heap.size, 3 + k * 5 + 3, none⟩ (I s.we)).setCell ⟨w.heap.size, 3 + k * 5 + 4, none⟩ (I s.si)) = W at h0 h2 hB ⊢
  exact ⟨hB.alloc hB.size _, heap_old_at (heap_lt h0) h0, heap_old_at (heap_lt h2) h2⟩
theorem wpList_ap_load {w : World} {q : Po} {ops : Array Oper} {rest : List Oper} {op : Oper} {a : Act} {W : World} {Q : Exit → Act → World → Prop} (hgd : op.guard = none) (x : Operand) (ho : op.op = .load 33 x)
    (hx : a.eval x = .pointer (some ⟨w.heap.size, 0, none⟩)) (hq : q.ok) (hF : ApF w W q)
    (h : ∀ W', ApF w W' q → wpList Try.prog ops Q rest (a.put op.dst (.agg q.cells.toArray)) W') : wpList Try.prog ops Q (op :: rest) a W :=
  wpList_load_mid hgd 33 x ho w.heap.size 0 hx q.cells _ (pool_range hF.b0) Try.underlying33 rfl (size33 q hq) (h W hF)
theorem poDo_ok {p : Po} (hp : p.ok) (e : En) : (poDo p e).ok := by
  unfold poDo
  split
  · exact ⟨hp.len⟩
  · exact ⟨by simp [hp.len]⟩
set_option maxHeartbeats 2000000 in
theorem ref6_Apply_k2 (p : Po) (e : En) (w : World) (hp : p.fit) (he : enCheck e = 0) (hb : badB p e = false) (hs : soonB p e = false) (hk : e.ki = 2) : Calls Try.prog 31 #[p.v, e.v] w fun r w' => r = .returned (.tuple #[(poDo p e).v, I 0]) ∧ Below w.heap.size w w' := by
  have hz := fun w => zero33 w
  have HC := Bx.mk (fun W => Check_ok he W)
  have HD := Bx.mk (fun W => bad_as hp.ok he hb W)
  obtain ⟨g0, g1, _, _⟩ := enCheck_sl he
  clear he hb
  have HJ := Lib.hid (size33 p hp.ok)
  have HK := Bx.mk (fun (W : World) (h : W.heap[w.heap.size]? = some (.cells p.cells.toArray 33 (0, 0))) => (slot_cells h hp.ok e.sl.toNat (by omega)))
  have HL := Bx.mk (fun (W : World) (h : W.heap[w.heap.size]? = some (.cells p.cells.toArray 33 (0, 0))) => (pool_cells h hp.ok))
  have HPO : Bx (poDo p e = { p with ver := p.ver + 1, sl := p.sl.set e.sl.toNat (slotDo e p.ep (p.slot e.sl.toNat)) }) := ⟨by unfold poDo; rw [if_neg (by omega)]⟩
  have HQ := Bx.mk (poDo_ok hp.ok e)
  have v0 := hp.v0
  have v1 := hp.v1
  generalize hsl : p.slot e.sl.toNat = s at HK HPO
  replace HPO : Bx (poDo p e = { p with ver := p.ver + 1, sl := p.sl.set e.sl.toNat ⟨2, s.ad, s.po, s.we, s.si⟩ }) := ⟨by rw [HPO.out]; simp [slotDo, hk, Sl.zero]⟩
  generalize poDo p e = q at HPO HQ ⊢
  have k1 : (e.ki == 1) = false := beq_eq_false_iff_ne.2 (by omega)
  have k2 : (e.ki == 2) = true := beq_iff_eq.2 (by omega)
  have k5 : (e.ki == 5) = false := beq_eq_false_iff_ne.2 (by omega)
  have wv : IntKind.i64.wrap (p.ver + 1) = p.ver + 1 := IntWalk.i64_in _ (by omega)
  have HJ2 := Lib.hid (size33s q HQ.out)
  have HO2 := Lib.hid (Po.one q)
  clear hk hsl hs
  unfold Po.v En.v En.cells
  go_enter Try.func31, Try.ntmps31
  go_wp2_with (first
    | (go_at_call 59; refine (HC.out _).mono ?_; rintro r w3 ⟨rfl, hb3⟩; have HE := (ApE.start w p e).trans hb3; clear hb3; have HR0 := Lib.hid (pool_range HE.b0); obtain ⟨e0, e1, e2, e3, e4, e5, e6⟩ := HE.e_cells)
    | (go_at_call 60; refine (HD.out _).mono ?_; rintro r w4 ⟨rfl, hb4⟩; have HE4 := HE.trans hb4; clear hb4; clear e0 e1 e2 e3 e4 e5 e6; obtain ⟨e0, e1, e2, e3, e4, e5, e6⟩ := HE4.e_cells)
    | (refine wpList_load_mid rfl 33 _ rfl w.heap.size 0 rfl p.cells _ HR0.out Try.underlying33 rfl HJ.out ?_))
  go_quiet (fail)
  have HE5 := HE4.drewN nq
  generalize w4.drewN nq = w5 at HE5 ⊢
  clear e0 e1 e2 e3 e4 e5 e6 HE4 HE HR0 hz
  obtain ⟨e0, e1, e2, e3, e4, e5, e6⟩ := HE5.e_cells
  obtain ⟨q0, _, _, q3⟩ := HL.out _ HE5.b0
  obtain ⟨s0, s1, s2, s3, s4⟩ := HK.out _ HE5.b0
  have f0 : ∀ j, w5.frozen? ⟨w.heap.size, j, none⟩ = false := fun j => frozen_of_row _ _ _ _ _ HE5.b0
  have fr := f0 0
  have fs0 := f0 (3 + e.sl.toNat * 5)
  have fs1 := f0 (3 + e.sl.toNat * 5 + 1)
  have fs2 := f0 (3 + e.sl.toNat * 5 + 2)
  have fs3 := f0 (3 + e.sl.toNat * 5 + 3)
  have fs4 := f0 (3 + e.sl.toNat * 5 + 4)
  clear f0
  have hl := HE5.size
  have hl0 : w.heap.size < w5.heap.size := by omega
  have hl1 : w.heap.size + 1 < w5.heap.size := by omega
  have hn0 : w.heap.size ≠ w5.heap.size := by omega
  have hn1 : w.heap.size + 1 ≠ w5.heap.size := by omega
  go_wp2_with (first
    | (refine wpList_ap_load (q := q) rfl _ rfl rfl HQ.out ?_ ?_; (rw [HPO.out]; exact ApF.slot HE5 hp.ok _ _ (by omega) ⟨2, s.ad, s.po, s.we, s.si⟩ _); intro W6 HF; clear e0 e1 e2 e3 e4 e5 e6 q0 q3 s0 s1 s2 s3 s4 fr fs0 fs1 fs2 fs3 fs4 HE5 hl hl0 hl1 hn0 hn1; have HT := Lib.hid (there_of_block HF.b2 0 q.cells.toArray.size (by rw [List.size_toArray, Po.cells_len q HQ.out, List.size_toArray, Po.cells_len _ Po.zero_ok]; decide)); have HR := Lib.hid (row_stored HF.b2 (vs := q.cells) (by rw [Po.cells_len q HQ.out, List.size_toArray, Po.cells_len _ Po.zero_ok])))
    | (refine wpList_store_mid rfl 33 _ _ rfl (w.heap.size + 1 + 1) 0 _ rfl rfl HT.out HJ2.out HO2.out ?_))
  exact bodyPost_ret (results_cell_tmp Try.results31 _ _ (w.heap.size + 1 + 1) _ _ (I 0) rfl rfl (pool_range HR.out) Try.underlying33 rfl (size33 _ HQ.out)) rfl ⟨rfl, below_setCells HF.below (by omega) _ _⟩
end Go.Proofs.Ytimdaceidhdaeaa

namespace Go.Proofs.Ytimdaceidhdaeaa
open Go.RowKit Go.Proofs
set_option maxHeartbeats 2000000 in
theorem ref6_Apply_k1 (p : Po) (e : En) (w : World) (hp : p.fit) (he : enCheck e = 0) (hb : badB p e = false) (hs : soonB p e = false) (hk : e.ki = 1) : Calls Try.prog 31 #[p.v, e.v] w fun r w' => r = .returned (.tuple #[(poDo p e).v, I 0]) ∧ Below w.heap.size w w' := by
  have hz := fun w => zero33 w
  have HC := Bx.mk (fun W => Check_ok he W)
  have HD := Bx.mk (fun W => bad_as hp.ok he hb W)
  obtain ⟨g0, g1, _, _⟩ := enCheck_sl he
  clear he hb
  have HJ := Lib.hid (size33 p hp.ok)
  have HK := Bx.mk (fun (W : World) (h : W.heap[w.heap.size]? = some (.cells p.cells.toArray 33 (0, 0))) => (slot_cells h hp.ok e.sl.toNat (by omega)))
  have HL := Bx.mk (fun (W : World) (h : W.heap[w.heap.size]? = some (.cells p.cells.toArray 33 (0, 0))) => (pool_cells h hp.ok))
  have HPO : Bx (poDo p e = { p with ver := p.ver + 1, sl := p.sl.set e.sl.toNat (slotDo e p.ep (p.slot e.sl.toNat)) }) := ⟨by unfold poDo; rw [if_neg (by omega)]⟩
  have HQ := Bx.mk (poDo_ok hp.ok e)
  have v0 := hp.v0
  have v1 := hp.v1
  generalize hsl : p.slot e.sl.toNat = s at HK HPO
  replace HPO : Bx (poDo p e = { p with ver := p.ver + 1, sl := p.sl.set e.sl.toNat ⟨1, e.ad, e.po, e.we, 0⟩ }) := ⟨by rw [HPO.out]; simp [slotDo, hk, Sl.zero]⟩
  generalize poDo p e = q at HPO HQ ⊢
  have k1 : (e.ki == 1) = true := beq_iff_eq.2 (by omega)
  have k5 : (e.ki == 5) = false := beq_eq_false_iff_ne.2 (by omega)
  have wv : IntKind.i64.wrap (p.ver + 1) = p.ver + 1 := IntWalk.i64_in _ (by omega)
  have HJ2 := Lib.hid (size33s q HQ.out)
  have HO2 := Lib.hid (Po.one q)
  clear hk hsl hs
  unfold Po.v En.v En.cells
  go_enter Try.func31, Try.ntmps31
  go_wp2_with (first
    | (go_at_call 59; refine (HC.out _).mono ?_; rintro r w3 ⟨rfl, hb3⟩; have HE := (ApE.start w p e).trans hb3; clear hb3; have HR0 := Lib.hid (pool_range HE.b0); obtain ⟨e0, e1, e2, e3, e4, e5, e6⟩ := HE.e_cells)
    | (go_at_call 60; refine (HD.out _).mono ?_; rintro r w4 ⟨rfl, hb4⟩; have HE4 := HE.trans hb4; clear hb4; clear e0 e1 e2 e3 e4 e5 e6; obtain ⟨e0, e1, e2, e3, e4, e5, e6⟩ := HE4.e_cells)
    | (refine wpList_load_mid rfl 33 _ rfl w.heap.size 0 rfl p.cells _ HR0.out Try.underlying33 rfl HJ.out ?_))
  go_quiet (fail)
  have HE5 := HE4.drewN nq
  generalize w4.drewN nq = w5 at HE5 ⊢
  clear e0 e1 e2 e3 e4 e5 e6 HE4 HE HR0 hz
  obtain ⟨e0, e1, e2, e3, e4, e5, e6⟩ := HE5.e_cells
  obtain ⟨q0, _, _, q3⟩ := HL.out _ HE5.b0
  obtain ⟨s0, s1, s2, s3, s4⟩ := HK.out _ HE5.b0
  have f0 : ∀ j, w5.frozen? ⟨w.heap.size, j, none⟩ = false := fun j => frozen_of_row _ _ _ _ _ HE5.b0
  have fr := f0 0
  have fs0 := f0 (3 + e.sl.toNat * 5)
  have fs1 := f0 (3 + e.sl.toNat * 5 + 1)
  have fs2 := f0 (3 + e.sl.toNat * 5 + 2)
  have fs3 := f0 (3 + e.sl.toNat * 5 + 3)
  have fs4 := f0 (3 + e.sl.toNat * 5 + 4)
  clear f0
  have hl := HE5.size
  have hl0 : w.heap.size < w5.heap.size := by omega
  have hl1 : w.heap.size + 1 < w5.heap.size := by omega
  have hn0 : w.heap.size ≠ w5.heap.size := by omega
  have hn1 : w.heap.size + 1 ≠ w5.heap.size := by omega
  go_wp2_with (first
    | (refine wpList_ap_load (q := q) rfl _ rfl rfl HQ.out ?_ ?_; (rw [HPO.out]; exact ApF.slot HE5 hp.ok _ _ (by omega) ⟨1, e.ad, e.po, e.we, 0⟩ _); intro W6 HF; clear e0 e1 e2 e3 e4 e5 e6 q0 q3 s0 s1 s2 s3 s4 fr fs0 fs1 fs2 fs3 fs4 HE5 hl hl0 hl1 hn0 hn1; have HT := Lib.hid (there_of_block HF.b2 0 q.cells.toArray.size (by rw [List.size_toArray, Po.cells_len q HQ.out, List.size_toArray, Po.cells_len _ Po.zero_ok]; decide)); have HR := Lib.hid (row_stored HF.b2 (vs := q.cells) (by rw [Po.cells_len q HQ.out, List.size_toArray, Po.cells_len _ Po.zero_ok])))
    | (refine wpList_store_mid rfl 33 _ _ rfl (w.heap.size + 1 + 1) 0 _ rfl rfl HT.out HJ2.out HO2.out ?_))
  exact bodyPost_ret (results_cell_tmp Try.results31 _ _ (w.heap.size + 1 + 1) _ _ (I 0) rfl rfl (pool_range HR.out) Try.underlying33 rfl (size33 _ HQ.out)) rfl ⟨rfl, below_setCells HF.below (by omega) _ _⟩
set_option maxHeartbeats 2000000 in
theorem ref6_Apply_k3 (p : Po) (e : En) (w : World) (hp : p.fit) (he : enCheck e = 0) (hb : badB p e = false) (hs : soonB p e = false) (hk : e.ki = 3) : Calls Try.prog 31 #[p.v, e.v] w fun r w' => r = .returned (.tuple #[(poDo p e).v, I 0]) ∧ Below w.heap.size w w' := by
  have hz := fun w => zero33 w
  have HC := Bx.mk (fun W => Check_ok he W)
  have HD := Bx.mk (fun W => bad_as hp.ok he hb W)
  obtain ⟨g0, g1, _, _⟩ := enCheck_sl he
  clear he hb
  have HJ := Lib.hid (size33 p hp.ok)
  have HK := Bx.mk (fun (W : World) (h : W.heap[w.heap.size]? = some (.cells p.cells.toArray 33 (0, 0))) => (slot_cells h hp.ok e.sl.toNat (by omega)))
  have HL := Bx.mk (fun (W : World) (h : W.heap[w.heap.size]? = some (.cells p.cells.toArray 33 (0, 0))) => (pool_cells h hp.ok))
  have HPO : Bx (poDo p e = { p with ver := p.ver + 1, sl := p.sl.set e.sl.toNat (slotDo e p.ep (p.slot e.sl.toNat)) }) := ⟨by unfold poDo; rw [if_neg (by omega)]⟩
  have HQ := Bx.mk (poDo_ok hp.ok e)
  have v0 := hp.v0
  have v1 := hp.v1
  generalize hsl : p.slot e.sl.toNat = s at HK HPO
  replace HPO : Bx (poDo p e = { p with ver := p.ver + 1, sl := p.sl.set e.sl.toNat ⟨3, s.ad, s.po, s.we, s.si⟩ }) := ⟨by rw [HPO.out]; simp [slotDo, hk, Sl.zero]⟩
  generalize poDo p e = q at HPO HQ ⊢
  have k1 : (e.ki == 1) = false := beq_eq_false_iff_ne.2 (by omega)
  have k2 : (e.ki == 2) = false := beq_eq_false_iff_ne.2 (by omega)
  have k3 : (e.ki == 3) = true := beq_iff_eq.2 (by omega)
  have k5 : (e.ki == 5) = false := beq_eq_false_iff_ne.2 (by omega)
  have wv : IntKind.i64.wrap (p.ver + 1) = p.ver + 1 := IntWalk.i64_in _ (by omega)
  have HJ2 := Lib.hid (size33s q HQ.out)
  have HO2 := Lib.hid (Po.one q)
  clear hk hsl hs
  unfold Po.v En.v En.cells
  go_enter Try.func31, Try.ntmps31
  go_wp2_with (first
    | (go_at_call 59; refine (HC.out _).mono ?_; rintro r w3 ⟨rfl, hb3⟩; have HE := (ApE.start w p e).trans hb3; clear hb3; have HR0 := Lib.hid (pool_range HE.b0); obtain ⟨e0, e1, e2, e3, e4, e5, e6⟩ := HE.e_cells)
    | (go_at_call 60; refine (HD.out _).mono ?_; rintro r w4 ⟨rfl, hb4⟩; have HE4 := HE.trans hb4; clear hb4; clear e0 e1 e2 e3 e4 e5 e6; obtain ⟨e0, e1, e2, e3, e4, e5, e6⟩ := HE4.e_cells)
    | (refine wpList_load_mid rfl 33 _ rfl w.heap.size 0 rfl p.cells _ HR0.out Try.underlying33 rfl HJ.out ?_))
  go_quiet (fail)
  have HE5 := HE4.drewN nq
  generalize w4.drewN nq = w5 at HE5 ⊢
  clear e0 e1 e2 e3 e4 e5 e6 HE4 HE HR0 hz
  obtain ⟨e0, e1, e2, e3, e4, e5, e6⟩ := HE5.e_cells
  obtain ⟨q0, _, _, q3⟩ := HL.out _ HE5.b0
  obtain ⟨s0, s1, s2, s3, s4⟩ := HK.out _ HE5.b0
  have f0 : ∀ j, w5.frozen? ⟨w.heap.size, j, none⟩ = false := fun j => frozen_of_row _ _ _ _ _ HE5.b0
  have fr := f0 0
  have fs0 := f0 (3 + e.sl.toNat * 5)
  have fs1 := f0 (3 + e.sl.toNat * 5 + 1)
  have fs2 := f0 (3 + e.sl.toNat * 5 + 2)
  have fs3 := f0 (3 + e.sl.toNat * 5 + 3)
  have fs4 := f0 (3 + e.sl.toNat * 5 + 4)
  clear f0
  have hl := HE5.size
  have hl0 : w.heap.size < w5.heap.size := by omega
  have hl1 : w.heap.size + 1 < w5.heap.size := by omega
  have hn0 : w.heap.size ≠ w5.heap.size := by omega
  have hn1 : w.heap.size + 1 ≠ w5.heap.size := by omega
  go_wp2_with (first
    | (refine wpList_ap_load (q := q) rfl _ rfl rfl HQ.out ?_ ?_; (rw [HPO.out]; exact ApF.slot HE5 hp.ok _ _ (by omega) ⟨3, s.ad, s.po, s.we, s.si⟩ _); intro W6 HF; clear e0 e1 e2 e3 e4 e5 e6 q0 q3 s0 s1 s2 s3 s4 fr fs0 fs1 fs2 fs3 fs4 HE5 hl hl0 hl1 hn0 hn1; have HT := Lib.hid (there_of_block HF.b2 0 q.cells.toArray.size (by rw [List.size_toArray, Po.cells_len q HQ.out, List.size_toArray, Po.cells_len _ Po.zero_ok]; decide)); have HR := Lib.hid (row_stored HF.b2 (vs := q.cells) (by rw [Po.cells_len q HQ.out, List.size_toArray, Po.cells_len _ Po.zero_ok])))
    | (refine wpList_store_mid rfl 33 _ _ rfl (w.heap.size + 1 + 1) 0 _ rfl rfl HT.out HJ2.out HO2.out ?_))
  exact bodyPost_ret (results_cell_tmp Try.results31 _ _ (w.heap.size + 1 + 1) _ _ (I 0) rfl rfl (pool_range HR.out) Try.underlying33 rfl (size33 _ HQ.out)) rfl ⟨rfl, below_setCells HF.below (by omega) _ _⟩
set_option maxHeartbeats 2000000 in
theorem ref6_Apply_k5 (p : Po) (e : En) (w : World) (hp : p.fit) (he : enCheck e = 0) (hb : badB p e = false) (hs : soonB p e = false) (hk : e.ki = 5) : Calls Try.prog 31 #[p.v, e.v] w fun r w' => r = .returned (.tuple #[(poDo p e).v, I 0]) ∧ Below w.heap.size w w' := by
  have hz := fun w => zero33 w
  have HC := Bx.mk (fun W => Check_ok he W)
  have HD := Bx.mk (fun W => bad_as hp.ok he hb W)
  obtain ⟨g0, g1, _, _⟩ := enCheck_sl he
  clear he hb
  have HJ := Lib.hid (size33 p hp.ok)
  have HK := Bx.mk (fun (W : World) (h : W.heap[w.heap.size]? = some (.cells p.cells.toArray 33 (0, 0))) => (slot_cells h hp.ok e.sl.toNat (by omega)))
  have HL := Bx.mk (fun (W : World) (h : W.heap[w.heap.size]? = some (.cells p.cells.toArray 33 (0, 0))) => (pool_cells h hp.ok))
  have HPO : Bx (poDo p e = { p with ver := p.ver + 1, sl := p.sl.set e.sl.toNat (slotDo e p.ep (p.slot e.sl.toNat)) }) := ⟨by unfold poDo; rw [if_neg (by omega)]⟩
  have HQ := Bx.mk (poDo_ok hp.ok e)
  have v0 := hp.v0
  have v1 := hp.v1
  have si0 := hp.s0 e.sl.toNat
  have si1 := hp.s1 e.sl.toNat
  unfold soonB at hs
  have hs2 : ¬ p.ep < (p.slot e.sl.toNat).si + 3 := by intro h; rw [decide_eq_true ⟨hk, h⟩] at hs; cases hs
  generalize hsl : p.slot e.sl.toNat = s at HK HPO
  rw [hsl] at si0 si1 hs2
  have k6 : IntKind.i64.wrap (s.si + 3) = s.si + 3 := IntWalk.i64_in _ (by omega)
  have k7 : decide (p.ep < s.si + 3) = false := decide_eq_false hs2
  clear si0 si1 hs2 
  replace HPO : Bx (poDo p e = { p with ver := p.ver + 1, sl := p.sl.set e.sl.toNat Sl.zero }) := ⟨by rw [HPO.out]; simp [slotDo, hk, Sl.zero]⟩
  generalize poDo p e = q at HPO HQ ⊢
  have k1 : (e.ki == 1) = false := beq_eq_false_iff_ne.2 (by omega)
  have k2 : (e.ki == 2) = false := beq_eq_false_iff_ne.2 (by omega)
  have k3 : (e.ki == 3) = false := beq_eq_false_iff_ne.2 (by omega)
  have k4 : (e.ki == 4) = false := beq_eq_false_iff_ne.2 (by omega)
  have k5 : (e.ki == 5) = true := beq_iff_eq.2 (by omega)
  have wv : IntKind.i64.wrap (p.ver + 1) = p.ver + 1 := IntWalk.i64_in _ (by omega)
  have HJ2 := Lib.hid (size33s q HQ.out)
  have HO2 := Lib.hid (Po.one q)
  clear hk hsl hs
  unfold Po.v En.v En.cells
  go_enter Try.func31, Try.ntmps31
  go_wp2_with (first
    | (go_at_call 59; refine (HC.out _).mono ?_; rintro r w3 ⟨rfl, hb3⟩; have HE := (ApE.start w p e).trans hb3; clear hb3; have HR0 := Lib.hid (pool_range HE.b0); obtain ⟨e0, e1, e2, e3, e4, e5, e6⟩ := HE.e_cells)
    | (go_at_call 60; refine (HD.out _).mono ?_; rintro r w4 ⟨rfl, hb4⟩; have HE4 := HE.trans hb4; clear hb4; clear e0 e1 e2 e3 e4 e5 e6; obtain ⟨e0, e1, e2, e3, e4, e5, e6⟩ := HE4.e_cells; obtain ⟨_, _, _, q3⟩ := HL.out _ HE4.b0; obtain ⟨_, _, _, _, s4⟩ := HK.out _ HE4.b0)
    | (refine wpList_load_mid rfl 33 _ rfl w.heap.size 0 rfl p.cells _ HR0.out Try.underlying33 rfl HJ.out ?_))
  go_quiet (fail)
  have HE5 := HE4.drewN nq
  generalize w4.drewN nq = w5 at HE5 ⊢
  clear e0 e1 e2 e3 e4 e5 e6 HE4 HE HR0 q3 s4 hz
  obtain ⟨e0, e1, e2, e3, e4, e5, e6⟩ := HE5.e_cells
  obtain ⟨q0, _, _, q3⟩ := HL.out _ HE5.b0
  obtain ⟨s0, s1, s2, s3, s4⟩ := HK.out _ HE5.b0
  have f0 : ∀ j, w5.frozen? ⟨w.heap.size, j, none⟩ = false := fun j => frozen_of_row _ _ _ _ _ HE5.b0
  have fr := f0 0
  have fs0 := f0 (3 + e.sl.toNat * 5)
  have fs1 := f0 (3 + e.sl.toNat * 5 + 1)
  have fs2 := f0 (3 + e.sl.toNat * 5 + 2)
  have fs3 := f0 (3 + e.sl.toNat * 5 + 3)
  have fs4 := f0 (3 + e.sl.toNat * 5 + 4)
  clear f0
  have hl := HE5.size
  have hl0 : w.heap.size < w5.heap.size := by omega
  have hl1 : w.heap.size + 1 < w5.heap.size := by omega
  have hn0 : w.heap.size ≠ w5.heap.size := by omega
  have hn1 : w.heap.size + 1 ≠ w5.heap.size := by omega
  go_wp2_with (first
    | (refine wpList_ap_load (q := q) rfl _ rfl rfl HQ.out ?_ ?_; (rw [HPO.out]; exact ApF.slot HE5 hp.ok _ _ (by omega) Sl.zero _); intro W6 HF; clear e0 e1 e2 e3 e4 e5 e6 q0 q3 s0 s1 s2 s3 s4 fr fs0 fs1 fs2 fs3 fs4 HE5 hl hl0 hl1 hn0 hn1; have HT := Lib.hid (there_of_block HF.b2 0 q.cells.toArray.size (by rw [List.size_toArray, Po.cells_len q HQ.out, List.size_toArray, Po.cells_len _ Po.zero_ok]; decide)); have HR := Lib.hid (row_stored HF.b2 (vs := q.cells) (by rw [Po.cells_len q HQ.out, List.size_toArray, Po.cells_len _ Po.zero_ok])))
    | (refine wpList_store_mid rfl 33 _ _ rfl (w.heap.size + 1 + 1) 0 _ rfl rfl HT.out HJ2.out HO2.out ?_))
  exact bodyPost_ret (results_cell_tmp Try.results31 _ _ (w.heap.size + 1 + 1) _ _ (I 0) rfl rfl (pool_range HR.out) Try.underlying33 rfl (size33 _ HQ.out)) rfl ⟨rfl, below_setCells HF.below (by omega) _ _⟩
end Go.Proofs.Ytimdaceidhdaeaa

namespace Go.Proofs.Ytimdaceidhdaeaa
open Go.RowKit Go.Proofs
/-- Apply, once the slot is copied out. -/
structure ApG (w W : World) (p : Po) (e : En) (sb : Nat) (s : Sl) : Prop where
  below : Below w.heap.size w W
  b0 : W.heap[w.heap.size]? = some (.cells p.cells.toArray 33 (0, 0))
  b1 : W.heap[w.heap.size + 1]? = some (.cells #[I e.ki, I e.sl, I e.ad, I e.po, I e.we, U e.ke.a, U e.ke.b] 53 (0, 0))
  b2 : W.heap[w.heap.size + 1 + 1]? = some (.cells Po.zero.cells.toArray 33 (0, 0))
  bs : W.heap[sb]? = some (.cells #[I s.st, I s.ad, I s.po, I s.we, I s.si] 25 (0, 0))
  lt : w.heap.size + 1 + 1 < sb
theorem Po.ver_cells (p : Po) (v : Int) : p.cells.toArray.setIfInBounds 0 (I v) = ({ p with ver := v } : Po).cells.toArray := by
  simp [Po.cells]
theorem ApG.start {w w5 : World} {p : Po} {e : En} (h : ApE w w5 p e) (v : Int) (s : Sl) :
    ApG w ((w5.setCell ⟨w.heap.size, 0, none⟩ (I v)).alloc (.cells #[I s.st, I s.ad, I s.po, I s.we, I s.si] 25 (0, 0))) { p with ver := v } e w5.heap.size s := by
  have hl := h.size
  have h0 := setCell_block h.b0 0 (I v)
  rw [Po.ver_cells] at h0
  have h1 := setCell_else h.b1 (b := w.heap.size) (by omega) 0 (I v)
  have h2 := setCell_else h.b2 (b := w.heap.size) (by omega) 0 (I v)
  have hB := h.below.setCell (p := ⟨w.heap.size, 0, none⟩) (Nat.le_refl _) (I v)
  have hz : (w5.setCell ⟨w.heap.size, 0, none⟩ (I v)).heap.size = w5.heap.size := setCell_sz _ _
  generalize w5.setCell ⟨w.heap.size, 0, none⟩ (I v) = W at h0 h1 h2 hB hz ⊢
  exact ⟨hB.alloc hB.size _, heap_old_at (heap_lt h0) h0, heap_old_at (heap_lt h1) h1, heap_old_at (heap_lt h2) h2, heap_new_at hz.symm, hl⟩
theorem ApG.drew {w W : World} {p : Po} {e : En} {sb : Nat} {s : Sl} (h : ApG w W p e sb s) : ApG w W.drew p e sb s := ⟨h.below.drew, h.b0, h.b1, h.b2, h.bs, h.lt⟩
theorem ApG.trans {w W W' : World} {p : Po} {e : En} {sb : Nat} {s : Sl} (h : ApG w W p e sb s) (hb : Below W.heap.size W W') : ApG w W' p e sb s :=
  ⟨h.below.trans (hb.mono h.below.size), below_block hb h.b0, below_block hb h.b1, below_block hb h.b2, below_block hb h.bs, h.lt⟩
theorem ApG.slot {w W : World} {p : Po} {e : En} {sb : Nat} {s : Sl} (h : ApG w W p e sb s) (hp : p.ok) (k : Nat) (hk : k < 64) (s : Sl) :
    ApF w (((((W.setCell ⟨w.heap.size, 3 + k * 5, none⟩ (I s.st)).setCell ⟨w.heap.size, 3 + k * 5 + 1, none⟩ (I s.ad)).setCell ⟨w.heap.size, 3 + k * 5 + 2, none⟩ (I s.po)).setCell
      ⟨w.heap.size, 3 + k * 5 + 3, none⟩ (I s.we)).setCell ⟨w.heap.size, 3 + k * 5 + 4, none⟩ (I s.si)) { p with sl := p.sl.set k s } := by
  have hl := heap_lt h.b2
  have hc : Bx ((((((p.cells.toArray).setIfInBounds (3 + k * 5) (I s.st)).setIfInBounds (3 + k * 5 + 1) (I s.ad)).setIfInBounds (3 + k * 5 + 2) (I s.po)).setIfInBounds (3 + k * 5 + 3) (I s.we)).setIfInBounds (3 + k * 5 + 4) (I s.si) =
      ({ p with sl := p.sl.set k s } : Po).cells.toArray) := ⟨by
    have := Po.set_cells p hp p.ver k hk s
    rw [Po.ver_cells p p.ver] at this
    exact this⟩
  generalize ({ p with sl := p.sl.set k s } : Po) = p' at hc ⊢
  have h0 := setCell_block (setCell_block (setCell_block (setCell_block (setCell_block h.b0 (3 + k * 5) (I s.st)) (3 + k * 5 + 1) (I s.ad)) (3 + k * 5 + 2) (I s.po)) (3 + k * 5 + 3) (I s.we)) (3 + k * 5 + 4) (I s.si)
  rw [hc.out] at h0
  have h2 := setCell_else (setCell_else (setCell_else (setCell_else (setCell_else h.b2 (b := w.heap.size) (by omega) (3 + k * 5) (I s.st)) (b := w.heap.size) (by omega) (3 + k * 5 + 1) (I s.ad)) (b := w.heap.size) (by omega) (3 + k * 5 + 2) (I s.po)) (b := w.heap.size) (by omega) (3 + k * 5 + 3) (I s.we)) (b := w.heap.size) (by omega) (3 + k * 5 + 4) (I s.si)
  have hB := ((((h.below.setCell (p := ⟨w.heap.size, 3 + k * 5, none⟩) (Nat.le_refl _) (I s.st)).setCell (p := ⟨w.heap.size, 3 + k * 5 + 1, none⟩) (Nat.le_refl _) (I s.ad)).setCell (p := ⟨w.heap.size, 3 + k * 5 + 2, none⟩) (Nat.le_refl _) (I s.po)).setCell (p := ⟨w.heap.size, 3 + k * 5 + 3, none⟩) (Nat.le_refl _) (I s.we)).setCell (p := ⟨w.heap.size, 3 + k * 5 + 4, none⟩) (Nat.le_refl _) (I s.si)
  exact ⟨hB, h0, h2⟩
theorem ex_gen {Q : Exit → Act → World → Prop} {e : Exit} {a : Act} {W : World} (R : World → Prop) (hR : R W) (h : ∀ W', R W' → Q e a W') : Q e a W := h W hR
set_option maxHeartbeats 2000000 in
theorem ref6_Apply_k4 (p : Po) (e : En) (w : World) (hp : p.fit) (he : enCheck e = 0) (hb : badB p e = false) (hs : soonB p e = false) (hk : e.ki = 4) : Calls Try.prog 31 #[p.v, e.v] w fun r w' => r = .returned (.tuple #[(poDo p e).v, I 0]) ∧ Below w.heap.size w w' := by
  have hz := fun w => zero33 w
  have HC := Bx.mk (fun W => Check_ok he W)
  have HD := Bx.mk (fun W => bad_as hp.ok he hb W)
  obtain ⟨g0, g1, _, _⟩ := enCheck_sl he
  clear he hb
  have HJ := Lib.hid (size33 p hp.ok)
  have HK := Bx.mk (fun (W : World) (h : W.heap[w.heap.size]? = some (.cells p.cells.toArray 33 (0, 0))) => (slot_cells h hp.ok e.sl.toNat (by omega)))
  have HL := Bx.mk (fun (W : World) (h : W.heap[w.heap.size]? = some (.cells p.cells.toArray 33 (0, 0))) => (pool_cells h hp.ok))
  have HPO : Bx (poDo p e = { p with ver := p.ver + 1, sl := p.sl.set e.sl.toNat (slotDo e p.ep (p.slot e.sl.toNat)) }) := ⟨by unfold poDo; rw [if_neg (by omega)]⟩
  have HQ := Bx.mk (poDo_ok hp.ok e)
  have v0 := hp.v0
  have v1 := hp.v1
  generalize hsl : p.slot e.sl.toNat = s at HK HPO
  replace HPO : Bx (poDo p e = { p with ver := p.ver + 1, sl := p.sl.set e.sl.toNat ⟨4, s.ad, s.po, s.we, p.ep⟩ }) := ⟨by rw [HPO.out]; simp [slotDo, hk, Sl.zero]⟩
  generalize poDo p e = q at HPO HQ ⊢
  have k1 : (e.ki == 1) = false := beq_eq_false_iff_ne.2 (by omega)
  have k2 : (e.ki == 2) = false := beq_eq_false_iff_ne.2 (by omega)
  have k3 : (e.ki == 3) = false := beq_eq_false_iff_ne.2 (by omega)
  have k4 : (e.ki == 4) = true := beq_iff_eq.2 (by omega)
  have k5 : (e.ki == 5) = false := beq_eq_false_iff_ne.2 (by omega)
  have wv : IntKind.i64.wrap (p.ver + 1) = p.ver + 1 := IntWalk.i64_in _ (by omega)
  have HJ2 := Lib.hid (size33s q HQ.out)
  have HO2 := Lib.hid (Po.one q)
  clear hk hsl hs
  unfold Po.v En.v En.cells
  go_enter Try.func31, Try.ntmps31
  go_wp2_with (first
    | (go_at_call 59; refine (HC.out _).mono ?_; rintro r w3 ⟨rfl, hb3⟩; have HE := (ApE.start w p e).trans hb3; clear hb3; have HR0 := Lib.hid (pool_range HE.b0); obtain ⟨e0, e1, e2, e3, e4, e5, e6⟩ := HE.e_cells)
    | (go_at_call 60; refine (HD.out _).mono ?_; rintro r w4 ⟨rfl, hb4⟩; have HE4 := HE.trans hb4; clear hb4; clear e0 e1 e2 e3 e4 e5 e6; obtain ⟨e0, e1, e2, e3, e4, e5, e6⟩ := HE4.e_cells)
    | (refine wpList_load_mid rfl 33 _ rfl w.heap.size 0 rfl p.cells _ HR0.out Try.underlying33 rfl HJ.out ?_))
  go_quiet (fail)
  have HE5 := HE4.drewN nq
  generalize w4.drewN nq = w5 at HE5 ⊢
  clear e0 e1 e2 e3 e4 e5 e6 HE4 HE HR0 hz
  obtain ⟨e0, e1, e2, e3, e4, e5, e6⟩ := HE5.e_cells
  obtain ⟨q0, _, _, q3⟩ := HL.out _ HE5.b0
  obtain ⟨s0, s1, s2, s3, s4⟩ := HK.out _ HE5.b0
  have f0 : ∀ j, w5.frozen? ⟨w.heap.size, j, none⟩ = false := fun j => frozen_of_row _ _ _ _ _ HE5.b0
  have fr := f0 0
  have fs0 := f0 (3 + e.sl.toNat * 5)
  have fs1 := f0 (3 + e.sl.toNat * 5 + 1)
  have fs2 := f0 (3 + e.sl.toNat * 5 + 2)
  have fs3 := f0 (3 + e.sl.toNat * 5 + 3)
  have fs4 := f0 (3 + e.sl.toNat * 5 + 4)
  clear f0
  have hl := HE5.size
  have hl0 : w.heap.size < w5.heap.size := by omega
  have hl1 : w.heap.size + 1 < w5.heap.size := by omega
  have hn0 : w.heap.size ≠ w5.heap.size := by omega
  have hn1 : w.heap.size + 1 ≠ w5.heap.size := by omega
  go_wp2_with fail
  go_region_with (fail)
  all_goals (
    refine ex_gen (fun W' => ApG w W' { p with ver := p.ver + 1 } e w5.heap.size ⟨4, s.ad, s.po, s.we, p.ep⟩) (by repeat (first | exact ApG.start HE5 (p.ver + 1) ⟨4, s.ad, s.po, s.we, p.ep⟩ | apply ApG.drew)) ?_
    intro w6 HG
    clear e0 e1 e2 e3 e4 e5 e6 q0 q3 s0 s1 s2 s3 s4 fr fs0 fs1 fs2 fs3 fs4 HE5 hl hl0 hl1 hn0 hn1
    have f0 : ∀ j, w6.frozen? ⟨w.heap.size, j, none⟩ = false := fun j => frozen_of_row _ _ _ _ _ HG.b0
    have fs0 := f0 (3 + e.sl.toNat * 5)
    have fs1 := f0 (3 + e.sl.toNat * 5 + 1)
    have fs2 := f0 (3 + e.sl.toNat * 5 + 2)
    have fs3 := f0 (3 + e.sl.toNat * 5 + 3)
    have fs4 := f0 (3 + e.sl.toNat * 5 + 4)
    clear f0
    have e1 : w6.cell? ⟨w.heap.size + 1, 1, none⟩ = some (I e.sl) := by rw [cell_of_row _ _ _ _ _ _ HG.b1]; rfl
    have c0 : w6.cell? ⟨w5.heap.size, 0, none⟩ = some (I 4) := by rw [cell_of_row _ _ _ _ _ _ HG.bs]; rfl
    have c1 : w6.cell? ⟨w5.heap.size, 1, none⟩ = some (I s.ad) := by rw [cell_of_row _ _ _ _ _ _ HG.bs]; rfl
    have c2 : w6.cell? ⟨w5.heap.size, 2, none⟩ = some (I s.po) := by rw [cell_of_row _ _ _ _ _ _ HG.bs]; rfl
    have c3 : w6.cell? ⟨w5.heap.size, 3, none⟩ = some (I s.we) := by rw [cell_of_row _ _ _ _ _ _ HG.bs]; rfl
    have c4 : w6.cell? ⟨w5.heap.size, 4, none⟩ = some (I p.ep) := by rw [cell_of_row _ _ _ _ _ _ HG.bs]; rfl
    obtain ⟨s0, s1, s2, s3, s4⟩ := slot_cells (p := { p with ver := p.ver + 1 }) HG.b0 ⟨hp.ok.len⟩ e.sl.toNat (by omega)
    generalize ({ p with ver := p.ver + 1 } : Po).slot e.sl.toNat = sx at s0 s1 s2 s3 s4
    go_wp2_with (first
      | (refine wpList_ap_load (q := q) rfl _ rfl rfl HQ.out ?_ ?_; (rw [HPO.out]; exact ApG.slot HG (p := { p with ver := p.ver + 1 }) ⟨hp.ok.len⟩ e.sl.toNat (by omega) ⟨4, s.ad, s.po, s.we, p.ep⟩); intro W6 HF; clear HG e1 fs0 fs1 fs2 fs3 fs4 c0 c1 c2 c3 c4; have HT := Lib.hid (there_of_block HF.b2 0 q.cells.toArray.size (by rw [List.size_toArray, Po.cells_len q HQ.out, List.size_toArray, Po.cells_len _ Po.zero_ok]; decide)); have HR := Lib.hid (row_stored HF.b2 (vs := q.cells) (by rw [Po.cells_len q HQ.out, List.size_toArray, Po.cells_len _ Po.zero_ok])))
      | (refine wpList_store_mid rfl 33 _ _ rfl (w.heap.size + 1 + 1) 0 _ rfl rfl HT.out HJ2.out HO2.out ?_))
    exact bodyPost_ret (results_cell_tmp Try.results31 _ _ (w.heap.size + 1 + 1) _ _ (I 0) rfl rfl (pool_range HR.out) Try.underlying33 rfl (size33 _ HQ.out)) rfl ⟨rfl, below_setCells HF.below (by omega) _ _⟩)
end Go.Proofs.Ytimdaceidhdaeaa

namespace Go.Proofs.Ytimdaceidhdaeaa
open Go.RowKit Go.Proofs
theorem set_slot (p : Po) (k : Nat) : p.sl.set k (p.slot k) = p.sl := by
  apply List.ext_getElem?
  intro i
  rw [List.getElem?_set]
  split
  · rename_i h
    subst h
    split
    · rename_i h2
      unfold Po.slot
      simp [List.getD_eq_getElem?_getD, h2]
    · rename_i h2
      exact (List.getElem?_eq_none (by omega)).symm
  · rfl
theorem Po.ring_set (p : Po) (hp : p.ok) (ep : Int) (k0 k1 k2 : Ke) :
    (((((((p.cells.toArray.setIfInBounds 323 (I ep)).setIfInBounds 324 (U k0.a)).setIfInBounds 325 (U k0.b)).setIfInBounds 326 (U k1.a)).setIfInBounds 327 (U k1.b)).setIfInBounds 328 (U k2.a)).setIfInBounds 329 (U k2.b)) =
      ({ p with ep := ep, k0 := k0, k1 := k1, k2 := k2 } : Po).cells.toArray := by
  have hq : ({ p with ep := ep, k0 := k0, k1 := k1, k2 := k2 } : Po).ok := ⟨hp.len⟩
  apply Array.ext
  · simp [Po.cells_len _ hp, Po.cells_len _ hq]
  intro i h1 h2
  have hi : i < 330 := by simpa [Po.cells_len _ hq] using h2
  apply Option.some.inj
  rw [← Array.getElem?_eq_getElem h1, ← Array.getElem?_eq_getElem h2]
  simp only [Array.getElem?_setIfInBounds, Array.size_setIfInBounds, List.size_toArray, Po.cells_len _ hp, List.getElem?_toArray]
  by_cases c1 : i < 323
  · rw [if_neg (by omega), if_neg (by omega), if_neg (by omega), if_neg (by omega), if_neg (by omega), if_neg (by omega), if_neg (by omega)]
    have key : ∀ R : List Value, (([I p.ver, I p.ad, I p.po] ++ slots p.sl) ++ R)[i]? = ([I p.ver, I p.ad, I p.po] ++ slots p.sl)[i]? := fun R => List.getElem?_append_left (by rw [List.length_append, slots_len, hp.len]; exact c1)
    exact (key _).trans (key _).symm
  · have : i = 323 ∨ i = 324 ∨ i = 325 ∨ i = 326 ∨ i = 327 ∨ i = 328 ∨ i = 329 := by omega
    rcases this with rfl | rfl | rfl | rfl | rfl | rfl | rfl
    · have := Po.at_ring _ 0 hq; simpa [Ring.cells] using this.symm
    · have := Po.at_ring _ 1 hq; simpa [Ring.cells] using this.symm
    · have := Po.at_ring _ 2 hq; simpa [Ring.cells] using this.symm
    · have := Po.at_ring _ 3 hq; simpa [Ring.cells] using this.symm
    · have := Po.at_ring _ 4 hq; simpa [Ring.cells] using this.symm
    · have := Po.at_ring _ 5 hq; simpa [Ring.cells] using this.symm
    · have := Po.at_ring _ 6 hq; simpa [Ring.cells] using this.symm
theorem ApG.ring {w W : World} {p : Po} {e : En} {sb : Nat} {s : Sl} (h : ApG w W p e sb s) (hp : p.ok) (ep : Int) (k0 k1 k2 : Ke) :
    ApG w (((((((W.setCell ⟨w.heap.size, 323, none⟩ (I ep)).setCell ⟨w.heap.size, 324, none⟩ (U k0.a)).setCell ⟨w.heap.size, 325, none⟩ (U k0.b)).setCell ⟨w.heap.size, 326, none⟩ (U k1.a)).setCell ⟨w.heap.size, 327, none⟩ (U k1.b)).setCell ⟨w.heap.size, 328, none⟩ (U k2.a)).setCell ⟨w.heap.size, 329, none⟩ (U k2.b)) { p with ep := ep, k0 := k0, k1 := k1, k2 := k2 } e sb s := by
  have hl := heap_lt h.b2
  have hlt := h.lt
  have hc := Bx.mk (Po.ring_set p hp ep k0 k1 k2)
  generalize ({ p with ep := ep, k0 := k0, k1 := k1, k2 := k2 } : Po) = p' at hc ⊢
  have h0 := (setCell_block (setCell_block (setCell_block (setCell_block (setCell_block (setCell_block (setCell_block h.b0 323 (I ep)) 324 (U k0.a)) 325 (U k0.b)) 326 (U k1.a)) 327 (U k1.b)) 328 (U k2.a)) 329 (U k2.b))
  rw [hc.out] at h0
  have h1 := (setCell_else (setCell_else (setCell_else (setCell_else (setCell_else (setCell_else (setCell_else h.b1 (b := w.heap.size) (by omega) 323 (I ep)) (b := w.heap.size) (by omega) 324 (U k0.a)) (b := w.heap.size) (by omega) 325 (U k0.b)) (b := w.heap.size) (by omega) 326 (U k1.a)) (b := w.heap.size) (by omega) 327 (U k1.b)) (b := w.heap.size) (by omega) 328 (U k2.a)) (b := w.heap.size) (by omega) 329 (U k2.b))
  have h2 := (setCell_else (setCell_else (setCell_else (setCell_else (setCell_else (setCell_else (setCell_else h.b2 (b := w.heap.size) (by omega) 323 (I ep)) (b := w.heap.size) (by omega) 324 (U k0.a)) (b := w.heap.size) (by omega) 325 (U k0.b)) (b := w.heap.size) (by omega) 326 (U k1.a)) (b := w.heap.size) (by omega) 327 (U k1.b)) (b := w.heap.size) (by omega) 328 (U k2.a)) (b := w.heap.size) (by omega) 329 (U k2.b))
  have h3 := (setCell_else (setCell_else (setCell_else (setCell_else (setCell_else (setCell_else (setCell_else h.bs (b := w.heap.size) (by omega) 323 (I ep)) (b := w.heap.size) (by omega) 324 (U k0.a)) (b := w.heap.size) (by omega) 325 (U k0.b)) (b := w.heap.size) (by omega) 326 (U k1.a)) (b := w.heap.size) (by omega) 327 (U k1.b)) (b := w.heap.size) (by omega) 328 (U k2.a)) (b := w.heap.size) (by omega) 329 (U k2.b))
  have hB := (((((((h.below.setCell (p := ⟨w.heap.size, 323, none⟩) (Nat.le_refl _) (I ep)).setCell (p := ⟨w.heap.size, 324, none⟩) (Nat.le_refl _) (U k0.a)).setCell (p := ⟨w.heap.size, 325, none⟩) (Nat.le_refl _) (U k0.b)).setCell (p := ⟨w.heap.size, 326, none⟩) (Nat.le_refl _) (U k1.a)).setCell (p := ⟨w.heap.size, 327, none⟩) (Nat.le_refl _) (U k1.b)).setCell (p := ⟨w.heap.size, 328, none⟩) (Nat.le_refl _) (U k2.a)).setCell (p := ⟨w.heap.size, 329, none⟩) (Nat.le_refl _) (U k2.b))
  exact ⟨hB, h0, h1, h2, h3, hlt⟩
set_option maxHeartbeats 2000000 in
theorem ref6_Apply_k6 (p : Po) (e : En) (w : World) (hp : p.fit) (he : enCheck e = 0) (hb : badB p e = false) (hs : soonB p e = false) (hk : e.ki = 6) : Calls Try.prog 31 #[p.v, e.v] w fun r w' => r = .returned (.tuple #[(poDo p e).v, I 0]) ∧ Below w.heap.size w w' := by
  have hz := fun w => zero33 w
  have HC := Bx.mk (fun W => Check_ok he W)
  have HD := Bx.mk (fun W => bad_as hp.ok he hb W)
  obtain ⟨g0, g1, _, _⟩ := enCheck_sl he
  clear he hb
  have HJ := Lib.hid (size33 p hp.ok)
  have HK := Bx.mk (fun (W : World) (h : W.heap[w.heap.size]? = some (.cells p.cells.toArray 33 (0, 0))) => (slot_cells h hp.ok e.sl.toNat (by omega)))
  have HL := Bx.mk (fun (W : World) (h : W.heap[w.heap.size]? = some (.cells p.cells.toArray 33 (0, 0))) => (pool_cells h hp.ok))
  have HPO : Bx (poDo p e = { p with ver := p.ver + 1, ep := p.ep + 1, k0 := p.k1, k1 := p.k2, k2 := e.ke, sl := p.sl.set e.sl.toNat (p.slot e.sl.toNat) }) := ⟨by unfold poDo; rw [if_pos hk, set_slot]⟩
  have HQ := Bx.mk (poDo_ok hp.ok e)
  have v0 := hp.v0
  have v1 := hp.v1
  generalize hsl : p.slot e.sl.toNat = s at HK HPO
  generalize poDo p e = q at HPO HQ ⊢
  have k1 : (e.ki == 1) = false := beq_eq_false_iff_ne.2 (by omega)
  have k2 : (e.ki == 2) = false := beq_eq_false_iff_ne.2 (by omega)
  have k3 : (e.ki == 3) = false := beq_eq_false_iff_ne.2 (by omega)
  have k4 : (e.ki == 4) = false := beq_eq_false_iff_ne.2 (by omega)
  have k5 : (e.ki == 5) = false := beq_eq_false_iff_ne.2 (by omega)
  have k6 : (e.ki == 6) = true := beq_iff_eq.2 hk
  have HN := Bx.mk (fun W => ref5_Next p.ep p.k0 p.k1 p.k2 e.ke W hp.e0 hp.e1)
  unfold Ring.cells Ke.v at HN
  have wv : IntKind.i64.wrap (p.ver + 1) = p.ver + 1 := IntWalk.i64_in _ (by omega)
  have HJ2 := Lib.hid (size33s q HQ.out)
  have HO2 := Lib.hid (Po.one q)
  clear hk hsl hs
  unfold Po.v En.v En.cells
  go_enter Try.func31, Try.ntmps31
  go_wp2_with (first
    | (go_at_call 59; refine (HC.out _).mono ?_; rintro r w3 ⟨rfl, hb3⟩; have HE := (ApE.start w p e).trans hb3; clear hb3; have HR0 := Lib.hid (pool_range HE.b0); obtain ⟨e0, e1, e2, e3, e4, e5, e6⟩ := HE.e_cells)
    | (go_at_call 60; refine (HD.out _).mono ?_; rintro r w4 ⟨rfl, hb4⟩; have HE4 := HE.trans hb4; clear hb4; clear e0 e1 e2 e3 e4 e5 e6; obtain ⟨e0, e1, e2, e3, e4, e5, e6⟩ := HE4.e_cells)
    | (refine wpList_load_mid rfl 33 _ rfl w.heap.size 0 rfl p.cells _ HR0.out Try.underlying33 rfl HJ.out ?_))
  go_quiet (fail)
  have HE5 := HE4.drewN nq
  generalize w4.drewN nq = w5 at HE5 ⊢
  clear e0 e1 e2 e3 e4 e5 e6 HE4 HE HR0 hz
  obtain ⟨e0, e1, e2, e3, e4, e5, e6⟩ := HE5.e_cells
  obtain ⟨q0, _, _, q3⟩ := HL.out _ HE5.b0
  obtain ⟨s0, s1, s2, s3, s4⟩ := HK.out _ HE5.b0
  have f0 : ∀ j, w5.frozen? ⟨w.heap.size, j, none⟩ = false := fun j => frozen_of_row _ _ _ _ _ HE5.b0
  have fr := f0 0
  have fs0 := f0 (3 + e.sl.toNat * 5)
  have fs1 := f0 (3 + e.sl.toNat * 5 + 1)
  have fs2 := f0 (3 + e.sl.toNat * 5 + 2)
  have fs3 := f0 (3 + e.sl.toNat * 5 + 3)
  have fs4 := f0 (3 + e.sl.toNat * 5 + 4)
  clear f0
  have hl := HE5.size
  have hl0 : w.heap.size < w5.heap.size := by omega
  have hl1 : w.heap.size + 1 < w5.heap.size := by omega
  have hn0 : w.heap.size ≠ w5.heap.size := by omega
  have hn1 : w.heap.size + 1 ≠ w5.heap.size := by omega
  have HC2 := Bx.mk (fun (W : World) (h : W.heap[w.heap.size]? = some (.cells p.cells.toArray 33 (0, 0))) => ring_cells h hp.ok)
  have r0 := HC2.out _ HE5.b0 0
  have r1 := HC2.out _ HE5.b0 1
  have r2 := HC2.out _ HE5.b0 2
  have r3 := HC2.out _ HE5.b0 3
  have r4 := HC2.out _ HE5.b0 4
  have r5 := HC2.out _ HE5.b0 5
  have r6 := HC2.out _ HE5.b0 6
  simp only [Ring.cells, List.getElem?_cons_succ, List.getElem?_cons_zero, Nat.reduceAdd] at r0 r1 r2 r3 r4 r5 r6
  clear q3
  go_wp2_with (first
    | (go_at_call 61; refine (HN.out _).mono ?_; rintro r w6 ⟨rfl, hb6⟩
       have HG := (ApG.start HE5 (p.ver + 1) s).trans hb6
       clear e0 e1 e2 e3 e4 e5 e6 q0 s0 s1 s2 s3 s4 fr fs0 fs1 fs2 fs3 fs4 HE5 hl hl0 hl1 hn0 hn1 r0 r1 r2 r3 r4 r5 r6 hb6
       have f0 : ∀ j, w6.frozen? ⟨w.heap.size, j, none⟩ = false := fun j => frozen_of_row _ _ _ _ _ HG.b0
       have fs0 := f0 (3 + e.sl.toNat * 5)
       have fs1 := f0 (3 + e.sl.toNat * 5 + 1)
       have fs2 := f0 (3 + e.sl.toNat * 5 + 2)
       have fs3 := f0 (3 + e.sl.toNat * 5 + 3)
       have fs4 := f0 (3 + e.sl.toNat * 5 + 4)
       have fr0 := f0 323
       have fr1 := f0 324
       have fr2 := f0 325
       have fr3 := f0 326
       have fr4 := f0 327
       have fr5 := f0 328
       have fr6 := f0 329
       clear f0
       have e1 : w6.cell? ⟨w.heap.size + 1, 1, none⟩ = some (I e.sl) := by rw [cell_of_row _ _ _ _ _ _ HG.b1]; rfl
       have c0 : w6.cell? ⟨w5.heap.size, 0, none⟩ = some (I s.st) := by rw [cell_of_row _ _ _ _ _ _ HG.bs]; rfl
       have c1 : w6.cell? ⟨w5.heap.size, 1, none⟩ = some (I s.ad) := by rw [cell_of_row _ _ _ _ _ _ HG.bs]; rfl
       have c2 : w6.cell? ⟨w5.heap.size, 2, none⟩ = some (I s.po) := by rw [cell_of_row _ _ _ _ _ _ HG.bs]; rfl
       have c3 : w6.cell? ⟨w5.heap.size, 3, none⟩ = some (I s.we) := by rw [cell_of_row _ _ _ _ _ _ HG.bs]; rfl
       have c4 : w6.cell? ⟨w5.heap.size, 4, none⟩ = some (I s.si) := by rw [cell_of_row _ _ _ _ _ _ HG.bs]; rfl
       have hl := HG.lt
       have hn0 : w.heap.size ≠ w5.heap.size := by omega
       have hn1 : w.heap.size + 1 ≠ w5.heap.size := by omega
       have hm0 : w5.heap.size ≠ w.heap.size := by omega
       obtain ⟨s0, s1, s2, s3, s4⟩ := slot_cells (p := { p with ver := p.ver + 1 }) HG.b0 ⟨hp.ok.len⟩ e.sl.toNat (by omega)
       generalize ({ p with ver := p.ver + 1 } : Po).slot e.sl.toNat = sx at s0 s1 s2 s3 s4
       have hr := ring_cells (p := { p with ver := p.ver + 1 }) HG.b0 ⟨hp.ok.len⟩
       have r0 := hr 0
       have r1 := hr 1
       have r2 := hr 2
       have r3 := hr 3
       have r4 := hr 4
       have r5 := hr 5
       have r6 := hr 6
       clear hr
       simp only [Ring.cells, List.getElem?_cons_succ, List.getElem?_cons_zero, Nat.reduceAdd] at r0 r1 r2 r3 r4 r5 r6)
    | (refine wpList_ap_load (q := q) rfl _ rfl rfl HQ.out ?_ ?_; (rw [HPO.out]; exact ApG.slot (ApG.ring HG (p := { p with ver := p.ver + 1 }) ⟨hp.ok.len⟩ (p.ep + 1) p.k1 p.k2 e.ke) (p := { p with ver := p.ver + 1, ep := p.ep + 1, k0 := p.k1, k1 := p.k2, k2 := e.ke }) ⟨hp.ok.len⟩ e.sl.toNat (by omega) s); intro W6 HF; clear HG e1 fs0 fs1 fs2 fs3 fs4 c0 c1 c2 c3 c4; have HT := Lib.hid (there_of_block HF.b2 0 q.cells.toArray.size (by rw [List.size_toArray, Po.cells_len q HQ.out, List.size_toArray, Po.cells_len _ Po.zero_ok]; decide)); have HR := Lib.hid (row_stored HF.b2 (vs := q.cells) (by rw [Po.cells_len q HQ.out, List.size_toArray, Po.cells_len _ Po.zero_ok])))
    | (refine wpList_store_mid rfl 33 _ _ rfl (w.heap.size + 1 + 1) 0 _ rfl rfl HT.out HJ2.out HO2.out ?_))
  exact bodyPost_ret (results_cell_tmp Try.results31 _ _ (w.heap.size + 1 + 1) _ _ (I 0) rfl rfl (pool_range HR.out) Try.underlying33 rfl (size33 _ HQ.out)) rfl ⟨rfl, below_setCells HF.below (by omega) _ _⟩
theorem ref6_Apply (p : Po) (e : En) (w : World) (hp : p.fit) : Calls Try.prog 31 #[p.v, e.v] w fun r w' => r = .returned (.tuple #[(applyP p e).v, I (apErr p e)]) ∧ Below w.heap.size w w' := by
  unfold applyP
  by_cases he : enCheck e = 0
  · by_cases hb : badB p e = true
    · have h0 : apErr p e = 12 := by unfold apErr; simp [he, hb]
      rw [h0, if_neg (by decide)]
      exact ref6_Apply_2 p e w hp.ok he hb
    · have hb : badB p e = false := by simpa using hb
      by_cases hs : soonB p e = true
      · have h0 : apErr p e = 13 := by unfold apErr; simp [he, hb, hs]
        rw [h0, if_neg (by decide)]
        exact ref6_Apply_3 p e w hp.ok he hb hs (hp.s0 _) (hp.s1 _)
      · have hs : soonB p e = false := by simpa using hs
        have h0 : apErr p e = 0 := by unfold apErr; simp [he, hb, hs]
        rw [h0, if_pos rfl]
        have hk := (enCheck_sl he).2.2
        have : e.ki = 1 ∨ e.ki = 2 ∨ e.ki = 3 ∨ e.ki = 4 ∨ e.ki = 5 ∨ e.ki = 6 := by omega
        rcases this with h | h | h | h | h | h
        · exact ref6_Apply_k1 p e w hp he hb hs h
        · exact ref6_Apply_k2 p e w hp he hb hs h
        · exact ref6_Apply_k3 p e w hp he hb hs h
        · exact ref6_Apply_k4 p e w hp he hb hs h
        · exact ref6_Apply_k5 p e w hp he hb hs h
        · exact ref6_Apply_k6 p e w hp he hb hs h
  · have h0 : apErr p e = enCheck e := by unfold apErr; rw [if_pos he]
    rw [h0, if_neg he]
    exact ref6_Apply_1 p e w he
end Go.Proofs.Ytimdaceidhdaeaa
