/- Proved: lemmas that the law's proof stands on (HeadA, HeadB, BSl). Conditions: as each states. -/
import Derived.Test.YtimdaceidhdaeaaLawTwice01
import Derived.Test.YtimdaceidhdaeaaLawTwice07

namespace Go.Proofs.Ytimdaceidhdaeaa
open Go.RowKit Go.Proofs
theorem next_step {P : Program} {w : World} {it m : Nat} {hs : List (Int × Int)} {seen : Array Nat} (hm : mapAt w m hs) (hi : iterAt w it m hs.length seen) (hne : ∃ j, j < hs.length ∧ j ∉ seen) (ty : TypeId) :
    ∃ j W, j < hs.length ∧ j ∉ seen ∧ (Instr.next (.pointer (some ⟨it, 0, none⟩)) false ty).run P w = .ok (.tuple #[.bool true, I (j : Int), wdv (hs.getD j (0, 0))]) W ∧ iterAt W it m hs.length (seen.push j) ∧ Kp (fun k => k = it) w W ∧ W.heap.size = w.heap.size := by
  obtain ⟨j, n, h1, h2, h3⟩ := run_next_some (P := P) hm hi hne ty
  have hit : it < w.heap.size := by unfold iterAt at hi; exact heap_lt hi
  refine ⟨j, _, h1, h2, h3, putObj_get (by exact hit), ⟨rfl, rfl, rfl, by rw [putObj_size]; exact Nat.le_refl _, fun k _ hk => putObj_other hk⟩, putObj_size⟩
theorem zero122 (w : World) : (zeroValue 122).run Try.prog w = .ok (.agg #[I 0, I 0]) w := by kernel_rfl
theorem nodup_le : ∀ (n : Nat) (l : List Nat), l.Nodup → (∀ x ∈ l, x < n) → l.length ≤ n := by
  intro n
  induction n with
  | zero =>
    intro l _ h
    cases l with
    | nil => simp
    | cons a l => exact absurd (h a (List.mem_cons_self ..)) (by omega)
  | succ n ih =>
    intro l hn h
    by_cases hm : n ∈ l
    · have h1 := ih (l.erase n) (hn.erase n) (fun x hx => by
        have h2 := (List.Nodup.mem_erase_iff hn).1 hx
        have := h x h2.2
        have := h2.1
        omega)
      rw [List.length_erase_of_mem hm] at h1
      omega
    · have := ih l hn (fun x hx => by
        have := h x hx
        have : x ≠ n := fun e => hm (e ▸ hx)
        omega)
      omega
theorem seen_full {n : Nat} {seen : Array Nat} (hn : seen.toList.Nodup) (hlt : ∀ j ∈ seen, j < n) (h : ∃ j, j < n ∧ j ∉ seen) : seen.size < n := by
  obtain ⟨j, hj, hjs⟩ := h
  have h1 : (j :: seen.toList).Nodup := List.nodup_cons.2 ⟨by simpa using hjs, hn⟩
  have h2 : (j :: seen.toList) ⊆ List.range n := by
    intro x hx
    rcases List.mem_cons.1 hx with rfl | hx
    · exact List.mem_range.2 hj
    · exact List.mem_range.2 (hlt x (by simpa using hx))
  have h3 := nodup_le n _ h1 (fun x hx => List.mem_range.1 (h2 hx))
  simp at h3; omega
theorem all_false {h : He} {j : Nat} (hj : j < h.hs.length) (hne : (h.hs.getD j (0, 0)).2 ≠ h.p.ver) : h.all = false := by
  unfold He.all
  rw [List.all_eq_false]
  refine ⟨h.hs.getD j (0, 0), ?_, by simpa using hne⟩
  simp [List.getD_eq_getElem?_getD, hj]
theorem all_true {h : He} (hall : ∀ j, j < h.hs.length → (h.hs.getD j (0, 0)).2 = h.p.ver) : h.all = true := by
  unfold He.all
  rw [List.all_eq_true]
  intro x hx
  obtain ⟨i, hi, rfl⟩ := List.getElem_of_mem hx
  have := hall i hi
  simp [List.getD_eq_getElem?_getD, hi] at this
  simpa using this
set_option maxHeartbeats 1000000 in
set_option maxRecDepth 10000 in
theorem head_all (hb mb cb : Nat) (h : He) (w : World) (H : HeadAt w hb mb cb h) :
    Calls Try.prog 62 #[.pointer (some ⟨hb, 0, none⟩)] w fun r w' => r = .returned (.bool h.all) ∧ Below w.heap.size w w' := by
  have c0 := H.c331
  have HR := Bx.mk (run_range_map (P := Try.prog) Try.underlying118 H.map)
  have HH := Bx.mk H
  clear H
  go_enter Try.func62, Try.ntmps62
  go_wp2_with (refine wpList_range_run rfl _ _ rfl _ rfl _ _ HR.out ?_; simp only [Act.put, List.setIfInBounds_toArray, List.set_cons_zero, List.set_cons_succ])
  have hi : iterAt (w.alloc (.mapIter (some mb) h.hs.length #[] h.hs.length)) w.heap.size mb h.hs.length #[] := heap_alloc_new w _
  have hB : Below w.heap.size w (w.alloc (.mapIter (some mb) h.hs.length #[] h.hs.length)) := (Below.refl _ _).alloc (Nat.le_refl _) _
  generalize w.alloc (.mapIter (some mb) h.hs.length #[] h.hs.length) = w1 at hi hB ⊢
  clear HR c0
  go_loopg [] h.hs.length (fun n wr => ∃ seen : Array Nat, Bx (seen.toList.Nodup ∧ (∀ j ∈ seen, j < h.hs.length ∧ (h.hs.getD j (0, 0)).2 = h.p.ver) ∧ n + seen.size = h.hs.length) ∧ iterAt wr w.heap.size mb h.hs.length seen ∧ Below w.heap.size w wr)
  case atStart => exact ⟨#[], ⟨by simp, by simp, by simp⟩, hi, hB⟩
  case round =>
    obtain ⟨seen, HS, hi2, hB2⟩ := hrel
    clear hi hB
    have H2 := HH.out.below hB2
    by_cases hne : ∃ j, j < h.hs.length ∧ j ∉ seen
    · obtain ⟨j, W, hj, hjs, hrun, hiW, hkW, hszW⟩ := next_step (P := Try.prog) H2.map hi2 hne 0
      have hlt := seen_full HS.out.1 (fun j hj => (HS.out.2.1 j hj).1) hne
      have hit : w.heap.size < wr.heap.size := by unfold iterAt at hi2; exact heap_lt hi2
      have hBW : Below w.heap.size w W := hB2.trans ⟨hkW.os, hkW.tape, hkW.output, hkW.size, fun k hk => hkW.block k (by omega) (by omega)⟩
      have HW := HH.out.below hBW
      have HRn := Bx.mk hrun
      have HRe := Bx.mk (run_entry_word (P := Try.prog) HW.map hiW (by simp) hj)
      have c0 := HW.ver
      have hl0 := HW.lts.1
      have HBW := Bx.mk (And.intro hBW (And.intro hiW (And.intro hj hjs)))
      have HL := Bx.mk hlt
      have HSZ := Bx.mk hszW
      clear hszW hrun hkW hBW HW hiW hjs hit hlt hB2 hi2 H2 hne hj
      have HX := Bx.mk (fun (e : (h.hs.getD j (0, 0)).2 ≠ h.p.ver) => all_false HBW.out.2.2.1 e)
      have HY := Bx.mk (rfl : h.hs.getD j (0, 0) = h.hs.getD j (0, 0))
      generalize hx : h.hs.getD j (0, 0) = x at HRn HRe HX
      have HZ := Bx.mk hx
      clear hx
      unfold wdv at HRn HRe
      have hz := fun w => zero122 w
      by_cases e : x.2 = h.p.ver
      · have b1 : (x.2 != h.p.ver) = false := by rw [bne_eq_false_iff_eq]; exact e
        have HE := Bx.mk e
        clear e
        go_wp2_with (first
          | (refine wpList_next_run rfl _ false rfl _ rfl _ _ HRn.out ?_)
          | (refine wpList_entry_run rfl _ rfl _ rfl _ _ HRe.out ?_))
        go_quiet (fail)
        go_wp2_with fail
        go_roundg (gk - 1)
        case measure => have := HS.out.2.2; have := HL.out; omega
        case rel =>
          have hi4 : iterAt ((W.alloc (.cells #[.int .i64 x.1, .int .i64 x.2] 122)).drewN nq) w.heap.size mb h.hs.length (seen.push j) := (Below.heap_alloc W _ _ (by have := HBW.out.2.1; unfold iterAt at this; exact heap_lt this)).trans HBW.out.2.1
          refine ⟨seen.push j, ⟨?_, ?_, ?_⟩, hi4, bdN (HBW.out.1.alloc HBW.out.1.size _) nq⟩
          · simp only [Array.toList_push]
            rw [List.nodup_append]
            refine ⟨HS.out.1, by simp, fun a ha b hb => ?_⟩
            simp at hb
            rintro rfl
            exact HBW.out.2.2.2 (hb ▸ (by simpa using ha))
          · intro i hi
            rcases Array.mem_push.1 hi with hi | rfl
            · exact HS.out.2.1 i hi
            · exact ⟨HBW.out.2.2.1, by rw [HZ.out]; exact HE.out⟩
          · have := HS.out.2.2; have := HL.out; simp; omega
      · have b1 : (x.2 != h.p.ver) = true := by rw [bne_iff_ne]; exact e
        have HE := Bx.mk e
        clear e
        go_wp2_with (first
          | (refine wpList_next_run rfl _ false rfl _ rfl _ _ HRn.out ?_)
          | (refine wpList_entry_run rfl _ rfl _ rfl _ _ HRe.out ?_))
        go_quiet (fail)
        go_wp2_with fail
        go_ret
        exact ⟨ret_bool (HX.out HE.out).symm, bdN (HBW.out.1.alloc HBW.out.1.size _) nq⟩
    · have hall : ∀ j, j < h.hs.length → j ∈ seen := fun j hj => by
        by_cases c : j ∈ seen
        · exact c
        · exact absurd ⟨j, hj, c⟩ hne
      have HRn := Bx.mk (run_next_over (P := Try.prog) H2.map hi2 hall 0)
      have HA := Bx.mk (all_true (h := h) (fun j hj => (HS.out.2.1 j (hall j hj)).2))
      clear hall hne hi2 H2
      go_wp2_with (refine wpList_next_run rfl _ false rfl _ rfl _ _ HRn.out ?_)
      go_ret
      exact ⟨ret_bool HA.out.symm, hB2⟩
end Go.Proofs.Ytimdaceidhdaeaa

namespace Go.Proofs.Ytimdaceidhdaeaa
open Go.RowKit Go.Proofs
theorem exec_lookup {P : Program} {a : Act} {o : Oper} {w : World} (t : TypeId) (x ix : Operand) (ok : Bool) (ho : o.op = .lookup t x ix ok) (m i v : Value) (hx : a.eval x = m) (hi : a.eval ix = i) (hr : (Instr.lookup t m i ok).run P w = .ok v w) :
    (execOp a.eval o).run P w = .ok (.value v) w := by
  unfold execOp
  simp only [ho, hx, hi, Sem.run_bind, hr, Result.andThen_ok, Sem.run_pure]
structure SHd (hb mb nb : Nat) (hs : List (Int × Int)) (n : No) (W : World) : Prop where
  mp : W.cell? ⟨hb, 331, none⟩ = some (.map (some mb))
  map : mapAt W mb hs
  u : W.cell? ⟨nb, 0, none⟩ = some (I n.u)
theorem SHd.kp {hb mb nb : Nat} {hs : List (Int × Int)} {n : No} {W W' : World} (h : SHd hb mb nb hs n W) (hk : ∀ k, k < W.heap.size → W'.heap[k]? = W.heap[k]?) : SHd hb mb nb hs n W' :=
  ⟨(World.cell?_of_block (hk _ (World.block_lt_of_cell? W _ h.mp))).trans h.mp, (hk _ (heap_lt h.map)).trans h.map, (World.cell?_of_block (hk _ (World.block_lt_of_cell? W _ h.u))).trans h.u⟩
structure NoteAt (W : World) (nb : Nat) (n : No) : Prop where
  row : W.heap[nb]? = some (.cells n.cells.toArray 86 (0, 0))
theorem NoteAt.cell {W : World} {nb : Nat} {n : No} (h : NoteAt W nb n) (j : Nat) (v : Value) (hv : n.cells[j]? = some v) : W.cell? ⟨nb, j, none⟩ = some v := by
  rw [cell_of_row _ _ _ _ _ _ h.row, List.getElem?_toArray]; exact hv
set_option maxHeartbeats 1000000 in
set_option maxRecDepth 100000 in
theorem head_Heard_out (hb mb cb : Nat) (h : He) (n : No) (w : World) (H : HeadAt w hb mb cb h) (hu : n.u < 0 ∨ (h.hs.length : Int) ≤ n.u) :
    Calls Try.prog 39 #[.pointer (some ⟨hb, 0, none⟩), n.val] w fun r w' => r = .returned (.tuple #[]) ∧ Below w.heap.size w w' := by
  have HH := Bx.mk (And.intro H hu)
  clear H hu
  have hN : NoteAt (w.alloc (.cells n.cells.toArray 86)) w.heap.size n := ⟨heap_alloc_new w _⟩
  have hB : Below w.heap.size w (w.alloc (.cells n.cells.toArray 86)) := (Below.refl _ _).alloc (Nat.le_refl _) _
  unfold No.val
  go_enter Try.func39, Try.ntmps39
  go_wp2_with fail
  generalize w.alloc (.cells n.cells.toArray 86) = w1 at hN hB ⊢
  have H1 := HH.out.1.below hB
  have hS1 : SHd hb mb w.heap.size h.hs n w1 := ⟨H1.c331, H1.map, hN.cell 0 _ rfl⟩
  refine wp_region_noPanic ?_
  refine wp_region_held_drew (S := SHd hb mb w.heap.size h.hs n) (by kernel_rfl) (hS1.kp (fun _ _ => rfl)) ?_
  intro hS
  have hN2 : NoteAt w1.drew w.heap.size n := ⟨hN.row⟩
  have hB2 : Below w.heap.size w w1.drew := hB.drew
  clear hN hB H1 hS1
  generalize w1.drew = X at hS hN2 hB2 ⊢
  refine wpAnyH_take (i := 0) (v := ?_) rfl (by kernel_rfl) (by kernel_rfl) (by kernel_rfl) (fun _ _ _ h => h) (Or.inl ⟨by rfl, ?_⟩) (by assumption) ?_
  rotate_left
  · intro W1 h1; have d1 := h1.mp; have d2 := h1.u; clear h1; go_simp; first | done | with_reducible rfl
  simp only [List.getElem_toArray, List.getElem_cons_succ, List.getElem_cons_zero, Act.put, List.setIfInBounds_toArray, List.set_cons_zero, List.set_cons_succ]
  refine wpAnyH_take (i := 1) (v := ?_) rfl (by kernel_rfl) (by kernel_rfl) (by kernel_rfl) (fun _ _ _ h => h) (Or.inl ⟨by rfl, ?_⟩) (by assumption) ?_
  rotate_left
  · intro W1 h1; have d1 := h1.mp; have d2 := h1.u; clear h1; go_simp; first | done | with_reducible rfl
  simp only [List.getElem_toArray, List.getElem_cons_succ, List.getElem_cons_zero, Act.put, List.setIfInBounds_toArray, List.set_cons_zero, List.set_cons_succ]
  refine wpAnyH_take (i := 2) (v := ?_) rfl (by kernel_rfl) (by kernel_rfl) (by kernel_rfl) (fun _ _ _ h => h) (Or.inl ⟨by rfl, ?_⟩) (by assumption) ?_
  rotate_left
  · intro W1 h1; have d1 := h1.mp; have d2 := h1.u; clear h1; go_simp; first | done | with_reducible rfl
  simp only [List.getElem_toArray, List.getElem_cons_succ, List.getElem_cons_zero, Act.put, List.setIfInBounds_toArray, List.set_cons_zero, List.set_cons_succ]
  refine wpAnyH_take (i := 3) (v := ?_) rfl (by kernel_rfl) (by kernel_rfl) (by kernel_rfl) (fun _ _ _ h => h) (Or.inl ⟨by rfl, ?_⟩) (by assumption) ?_
  rotate_left
  · intro W1 h1; have d1 := h1.mp; have d2 := h1.u; clear h1; go_simp; first | done | with_reducible rfl
  simp only [List.getElem_toArray, List.getElem_cons_succ, List.getElem_cons_zero, Act.put, List.setIfInBounds_toArray, List.set_cons_zero, List.set_cons_succ]
  refine wpAnyH_take (i := 4) (v := ?_) rfl (by kernel_rfl) (by kernel_rfl) (by kernel_rfl) (fun _ _ _ h => h) (Or.inl ⟨by rfl, ?_⟩) (by assumption) ?_
  rotate_left
  · intro W1 h1; have d1 := h1.mp; have d2 := h1.u; clear h1; go_simp; first | done | with_reducible rfl
  simp only [List.getElem_toArray, List.getElem_cons_succ, List.getElem_cons_zero, Act.put, List.setIfInBounds_toArray, List.set_cons_zero, List.set_cons_succ]
  refine wpAnyH_take (i := 5) (v := ?_) rfl (by kernel_rfl) (by kernel_rfl) (by kernel_rfl) (fun _ _ _ h => h) (Or.inl ⟨by rfl, ?_⟩) (by assumption) ?_
  rotate_left
  · intro W1 h1; have d1 := h1.mp; have d2 := h1.u; clear h1; go_simp; first | done | with_reducible rfl
  simp only [List.getElem_toArray, List.getElem_cons_succ, List.getElem_cons_zero, Act.put, List.setIfInBounds_toArray, List.set_cons_zero, List.set_cons_succ]
  refine wpAnyH_take (i := 6) (v := .tuple #[.agg #[I 0, I 0], .bool false]) rfl (by kernel_rfl) (by kernel_rfl) (by kernel_rfl) (fun _ _ _ h => h) (Or.inl ⟨by rfl, fun W1 h1 => exec_lookup _ _ _ _ rfl _ _ _ rfl rfl (run_lookup_out Try.underlying118 Try.underlying3 h1.map HH.out.2 (zero122 _) true)⟩) (by assumption) ?_
  try simp only [List.getElem_toArray, List.getElem_cons_succ, List.getElem_cons_zero, Act.put, List.setIfInBounds_toArray, List.set_cons_zero, List.set_cons_succ]
  refine wpAnyH_take (i := 7) (v := ?_) rfl (by kernel_rfl) (by kernel_rfl) (by kernel_rfl) (fun _ _ _ h => h) (Or.inl ⟨by rfl, ?_⟩) (by assumption) ?_
  rotate_left
  · intro W1 h1; clear h1; go_simp; first | done | with_reducible rfl
  simp only [List.getElem_toArray, List.getElem_cons_succ, List.getElem_cons_zero, Act.put, List.setIfInBounds_toArray, List.set_cons_zero, List.set_cons_succ]
  refine wpAnyH_take (i := 8) (v := ?_) rfl (by kernel_rfl) (by kernel_rfl) (by kernel_rfl) (fun _ _ _ h => h) (Or.inl ⟨by rfl, ?_⟩) (by assumption) ?_
  rotate_left
  · intro W1 h1; clear h1; go_simp; first | done | with_reducible rfl
  simp only [List.getElem_toArray, List.getElem_cons_succ, List.getElem_cons_zero, Act.put, List.setIfInBounds_toArray, List.set_cons_zero, List.set_cons_succ]
  refine wpAnyH_take (i := 9) (v := ?_) rfl (by kernel_rfl) (by kernel_rfl) (by kernel_rfl) (fun _ _ _ h => h) (Or.inl ⟨by rfl, ?_⟩) (by assumption) ?_
  rotate_left
  · intro W1 h1; clear h1; go_simp; first | done | with_reducible rfl
  simp only [List.getElem_toArray, List.getElem_cons_succ, List.getElem_cons_zero, Act.put, List.setIfInBounds_toArray, List.set_cons_zero, List.set_cons_succ]
  refine wpAnyH_ready (rs := [10]) (by kernel_rfl) (by simp) ?_
  refine AllReadyH.cons rfl (fun K hK => ?_) AllReadyH.nil
  have hz := fun w => zero122 w
  go_simp
  have hBa : Below w.heap.size w (X.alloc (.cells #[I 0, I 0] 122)) := hB2.alloc hB2.size _
  have hxl : w.heap.size < X.heap.size := heap_lt hN2.row
  have hNa : NoteAt (X.alloc (.cells #[I 0, I 0] 122)) w.heap.size n := ⟨(Below.heap_alloc X _ _ hxl).trans hN2.row⟩
  refine hK.out _ _ (hS.kp (fun k hk => Below.heap_alloc X _ k hk)) (fun hS3 => ?_)
  clear hK K hS hN2
  refine wpAnyH_ready (rs := [11]) (by kernel_rfl) (by simp) ?_
  refine AllReadyH.cons rfl (fun K hK => ?_) AllReadyH.nil
  go_simp
  refine hK.out _ _ hS3 (fun hS4 => ?_)
  clear hK K hS3
  refine wpAnyH_take (i := 12) (v := ?_) rfl (by kernel_rfl) (by kernel_rfl) (by kernel_rfl) (fun _ _ _ h => h) (Or.inl ⟨by rfl, ?_⟩) (by assumption) ?_
  rotate_left
  · intro W1 h1; clear h1; go_simp; first | done | with_reducible rfl
  simp only [List.getElem_toArray, List.getElem_cons_succ, List.getElem_cons_zero, Act.put, List.setIfInBounds_toArray, List.set_cons_zero, List.set_cons_succ]
  refine wpAnyH_done (by kernel_rfl) ?_ _
  refine NoPanic.normal ?_
  have c4 := hNa.cell 4 _ rfl
  clear hS4 hNa hB2
  cases ha : n.ack
  · rw [ha] at c4
    go_wp2_with fail
    exact bodyPost_ret (results_none rfl _ _ _) rfl ⟨rfl, hBa⟩
  · rw [ha] at c4
    go_wp2_with fail
    exact bodyPost_ret (results_none rfl _ _ _) rfl ⟨rfl, hBa⟩
theorem Kp.over {F : Nat → Prop} {w Y Z : World} {xb : Nat} (hB : Below w.heap.size w Y) (hk : Kp (fun k => k = xb) Y Z) (hx : w.heap.size ≤ xb) : Kp F w Z :=
  ⟨hk.os.trans hB.os, hk.tape.trans hB.tape, hk.output.trans hB.output, Nat.le_trans hB.size hk.size, fun k h _ => (hk.block k (Nat.lt_of_lt_of_le h hB.size) (by omega)).trans (hB.block k h)⟩
theorem head_put {w Z : World} {hb mb cb : Nat} {h : He} (H : HeadAt w hb mb cb h) (hk : Kp (fun k => k = mb) w Z) (hd : hb ≠ mb ∧ cb ≠ mb) (hs' : List (Int × Int)) :
    HeadAt (putObj Z.drew mb (mapObj hs')) hb mb cb { h with hs := hs' } ∧ Kp (fun k => k = mb) w (putObj Z.drew mb (mapObj hs')) := by
  obtain ⟨s, r, hc⟩ := H.chan
  have hlt := H.lts
  have hsz := hk.size
  refine ⟨⟨?_, ?_, ⟨s, r, ?_⟩, H.ok⟩, ⟨hk.os, hk.tape, hk.output, by rw [putObj_size]; exact hk.size, fun k h1 h2 => (putObj_other h2).trans (hk.block k h1 h2)⟩⟩
  · exact ((putObj_other hd.1).trans (hk.block _ hlt.1 hd.1)).trans H.row
  · exact putObj_get (by show mb < Z.heap.size; omega)
  · exact ((putObj_other hd.2).trans (hk.block _ hlt.2.2 hd.2)).trans hc
theorem run_put_word (W : World) (m u : Nat) (hs : List (Int × Int)) (i a b : Int) (e : i = (u : Int)) (hm : mapAt W m hs) (hu : u < hs.length) :
    (Instr.mapUpdate 118 (.map (some m)) (I i) (.agg #[I a, I b])).run Try.prog W.drew = .ok () (putObj W.drew m (mapObj (hs.set u (a, b)))) := by
  subst e
  exact run_mapUpdate_set (w := W.drew) (h := (a, b)) Try.underlying118 Try.underlying3 (show mapAt W.drew m hs from hm) hu
set_option maxHeartbeats 2000000 in
set_option maxRecDepth 100000 in
theorem head_Heard_in (hb mb cb : Nat) (h : He) (n : No) (w : World) (H : HeadAt w hb mb cb h) (hd : hb ≠ mb ∧ cb ≠ mb) (u : Nat) (hu : n.u = u) (hlt : u < h.hs.length) :
    Calls Try.prog 39 #[.pointer (some ⟨hb, 0, none⟩), n.val] w fun r w' => r = .returned (.tuple #[]) ∧ HeadAt w' hb mb cb (h.heard n) ∧ Kp (fun k => k = mb) w w' := by
  have HH := Bx.mk (And.intro H (And.intro hu hlt))
  clear H hu hlt
  have hN : NoteAt (w.alloc (.cells n.cells.toArray 86)) w.heap.size n := ⟨heap_alloc_new w _⟩
  have hB : Below w.heap.size w (w.alloc (.cells n.cells.toArray 86)) := (Below.refl _ _).alloc (Nat.le_refl _) _
  have hhd : Bx (h.heard n = if n.ack = false then h else if n.b < (h.hs.getD u (0, 0)).1 then h else { h with hs := h.hs.set u (if (h.hs.getD u (0, 0)).1 < n.b ∨ (h.hs.getD u (0, 0)).2 < max n.v (-1) then (n.b, max n.v (-1)) else h.hs.getD u (0, 0)) }) := ⟨by
    unfold He.heard
    have h1 : n.u.toNat = u := by rw [HH.out.2.1]; rfl
    have h2 := HH.out.2.1
    have h3 := HH.out.2.2
    cases n.ack with
    | false => simp
    | true => rw [if_neg (by simp; omega)]; simp only [h1]; simp⟩
  generalize hx : h.hs.getD u (0, 0) = x at hhd
  have HX := Bx.mk hx
  clear hx
  unfold No.val
  go_enter Try.func39, Try.ntmps39
  go_wp2_with fail
  generalize w.alloc (.cells n.cells.toArray 86) = w1 at hN hB ⊢
  have H1 := HH.out.1.below hB
  have hS1 : SHd hb mb w.heap.size h.hs n w1 := ⟨H1.c331, H1.map, hN.cell 0 _ rfl⟩
  refine wp_region_noPanic ?_
  refine wp_region_held_drew (S := SHd hb mb w.heap.size h.hs n) (by kernel_rfl) (hS1.kp (fun _ _ => rfl)) ?_
  intro hS
  have hN2 : NoteAt w1.drew w.heap.size n := ⟨hN.row⟩
  have hB2 : Below w.heap.size w w1.drew := hB.drew
  clear hN hB H1 hS1
  generalize w1.drew = X at hS hN2 hB2 ⊢
  refine wpAnyH_take (i := 0) (v := ?_) rfl (by kernel_rfl) (by kernel_rfl) (by kernel_rfl) (fun _ _ _ h => h) (Or.inl ⟨by rfl, ?_⟩) (by assumption) ?_
  rotate_left
  · intro W1 h1; have d1 := h1.mp; have d2 := h1.u; clear h1; go_simp; first | done | with_reducible rfl
  simp only [List.getElem_toArray, List.getElem_cons_succ, List.getElem_cons_zero, Act.put, List.setIfInBounds_toArray, List.set_cons_zero, List.set_cons_succ]
  refine wpAnyH_take (i := 1) (v := ?_) rfl (by kernel_rfl) (by kernel_rfl) (by kernel_rfl) (fun _ _ _ h => h) (Or.inl ⟨by rfl, ?_⟩) (by assumption) ?_
  rotate_left
  · intro W1 h1; have d1 := h1.mp; have d2 := h1.u; clear h1; go_simp; first | done | with_reducible rfl
  simp only [List.getElem_toArray, List.getElem_cons_succ, List.getElem_cons_zero, Act.put, List.setIfInBounds_toArray, List.set_cons_zero, List.set_cons_succ]
  refine wpAnyH_take (i := 2) (v := ?_) rfl (by kernel_rfl) (by kernel_rfl) (by kernel_rfl) (fun _ _ _ h => h) (Or.inl ⟨by rfl, ?_⟩) (by assumption) ?_
  rotate_left
  · intro W1 h1; have d1 := h1.mp; have d2 := h1.u; clear h1; go_simp; first | done | with_reducible rfl
  simp only [List.getElem_toArray, List.getElem_cons_succ, List.getElem_cons_zero, Act.put, List.setIfInBounds_toArray, List.set_cons_zero, List.set_cons_succ]
  refine wpAnyH_take (i := 3) (v := ?_) rfl (by kernel_rfl) (by kernel_rfl) (by kernel_rfl) (fun _ _ _ h => h) (Or.inl ⟨by rfl, ?_⟩) (by assumption) ?_
  rotate_left
  · intro W1 h1; have d1 := h1.mp; have d2 := h1.u; clear h1; go_simp; first | done | with_reducible rfl
  simp only [List.getElem_toArray, List.getElem_cons_succ, List.getElem_cons_zero, Act.put, List.setIfInBounds_toArray, List.set_cons_zero, List.set_cons_succ]
  refine wpAnyH_take (i := 4) (v := ?_) rfl (by kernel_rfl) (by kernel_rfl) (by kernel_rfl) (fun _ _ _ h => h) (Or.inl ⟨by rfl, ?_⟩) (by assumption) ?_
  rotate_left
  · intro W1 h1; have d1 := h1.mp; have d2 := h1.u; clear h1; go_simp; first | done | with_reducible rfl
  simp only [List.getElem_toArray, List.getElem_cons_succ, List.getElem_cons_zero, Act.put, List.setIfInBounds_toArray, List.set_cons_zero, List.set_cons_succ]
  refine wpAnyH_take (i := 5) (v := ?_) rfl (by kernel_rfl) (by kernel_rfl) (by kernel_rfl) (fun _ _ _ h => h) (Or.inl ⟨by rfl, ?_⟩) (by assumption) ?_
  rotate_left
  · intro W1 h1; have d1 := h1.mp; have d2 := h1.u; clear h1; go_simp; first | done | with_reducible rfl
  simp only [List.getElem_toArray, List.getElem_cons_succ, List.getElem_cons_zero, Act.put, List.setIfInBounds_toArray, List.set_cons_zero, List.set_cons_succ]
  have HE : Bx (n.u = (u : Int)) := ⟨HH.out.2.1⟩
  refine wpAnyH_take (i := 6) (v := .tuple #[.agg #[I x.1, I x.2], .bool true]) rfl (by kernel_rfl) (by kernel_rfl) (by kernel_rfl) (fun _ _ _ h => h) (Or.inl ⟨by rfl, fun W1 h1 => exec_lookup _ _ _ _ rfl _ _ _ rfl rfl (by have := run_lookup_in (P := Try.prog) Try.underlying118 Try.underlying3 h1.map HH.out.2.2 true; rw [HX.out] at this; rw [HE.out]; exact this)⟩) (by assumption) ?_
  try simp only [List.getElem_toArray, List.getElem_cons_succ, List.getElem_cons_zero, Act.put, List.setIfInBounds_toArray, List.set_cons_zero, List.set_cons_succ]
  refine wpAnyH_take (i := 7) (v := ?_) rfl (by kernel_rfl) (by kernel_rfl) (by kernel_rfl) (fun _ _ _ h => h) (Or.inl ⟨by rfl, ?_⟩) (by assumption) ?_
  rotate_left
  · intro W1 h1; clear h1; go_simp; first | done | with_reducible rfl
  simp only [List.getElem_toArray, List.getElem_cons_succ, List.getElem_cons_zero, Act.put, List.setIfInBounds_toArray, List.set_cons_zero, List.set_cons_succ]
  refine wpAnyH_take (i := 8) (v := ?_) rfl (by kernel_rfl) (by kernel_rfl) (by kernel_rfl) (fun _ _ _ h => h) (Or.inl ⟨by rfl, ?_⟩) (by assumption) ?_
  rotate_left
  · intro W1 h1; clear h1; go_simp; first | done | with_reducible rfl
  simp only [List.getElem_toArray, List.getElem_cons_succ, List.getElem_cons_zero, Act.put, List.setIfInBounds_toArray, List.set_cons_zero, List.set_cons_succ]
  refine wpAnyH_take (i := 9) (v := ?_) rfl (by kernel_rfl) (by kernel_rfl) (by kernel_rfl) (fun _ _ _ h => h) (Or.inl ⟨by rfl, ?_⟩) (by assumption) ?_
  rotate_left
  · intro W1 h1; clear h1; go_simp; first | done | with_reducible rfl
  simp only [List.getElem_toArray, List.getElem_cons_succ, List.getElem_cons_zero, Act.put, List.setIfInBounds_toArray, List.set_cons_zero, List.set_cons_succ]
  refine wpAnyH_ready (rs := [10]) (by kernel_rfl) (by simp) ?_
  refine AllReadyH.cons rfl (fun K hK => ?_) AllReadyH.nil
  have hz := fun w => zero122 w
  go_simp
  have hBa : Below w.heap.size w (X.alloc (.cells #[I x.1, I x.2] 122)) := hB2.alloc hB2.size _
  have hxl : w.heap.size < X.heap.size := heap_lt hN2.row
  have hNa : NoteAt (X.alloc (.cells #[I x.1, I x.2] 122)) w.heap.size n := ⟨(Below.heap_alloc X _ _ hxl).trans hN2.row⟩
  have hWa := heap_alloc_new X (.cells #[I x.1, I x.2] 122)
  refine hK.out _ _ (hS.kp (fun k hk => Below.heap_alloc X _ k hk)) (fun hS3 => ?_)
  clear hK K
  refine wpAnyH_ready (rs := [11]) (by kernel_rfl) (by simp) ?_
  refine AllReadyH.cons rfl (fun K hK => ?_) AllReadyH.nil
  go_simp
  refine hK.out _ _ (hS.kp (fun k hk => Below.heap_alloc X _ k hk)) (fun hS4 => ?_)
  clear hK K hS3 hS hN2
  refine wpAnyH_take (i := 12) (v := ?_) rfl (by kernel_rfl) (by kernel_rfl) (by kernel_rfl) (fun _ _ _ h => h) (Or.inl ⟨by rfl, ?_⟩) (by assumption) ?_
  rotate_left
  · intro W1 h1; clear h1; go_simp; first | done | with_reducible rfl
  simp only [List.getElem_toArray, List.getElem_cons_succ, List.getElem_cons_zero, Act.put, List.setIfInBounds_toArray, List.set_cons_zero, List.set_cons_succ]
  refine wpAnyH_done (by kernel_rfl) ?_ _
  refine NoPanic.normal ?_
  generalize X.heap.size = xb at hxl hWa ⊢
  generalize X.alloc (.cells #[I x.1, I x.2] 122) = Y at hBa hNa hS4 hWa ⊢
  have c1 := hNa.cell 1 _ rfl
  have c2 := hNa.cell 2 _ rfl
  have c4 := hNa.cell 4 _ rfl
  have e0 : Y.cell? ⟨xb, 0, none⟩ = some (I x.1) := by rw [cell_of_row _ _ _ _ _ _ hWa]; rfl
  have e1 : Y.cell? ⟨xb, 1, none⟩ = some (I x.2) := by rw [cell_of_row _ _ _ _ _ _ hWa]; rfl
  clear hB2 hz
  have HF := Bx.mk (And.intro hBa (And.intro hNa (And.intro hS4 hWa)))
  have hmp := hS4.mp
  have hu0 := hS4.u
  have fz := frozen_of_row _ _ 0 _ _ hWa
  have fz1 := frozen_of_row _ _ 1 _ _ hWa
  have hxY : xb < Y.heap.size := heap_lt hWa
  have HXL := Bx.mk (And.intro hxl HH.out.1.lts)
  clear hBa hNa hS4 hWa hxl HX
  cases ha : n.ack
  · rw [ha] at c4
    have HA := Bx.mk ha
    clear ha
    go_wp2_with fail
    exact bodyPost_ret (results_none rfl _ _ _) rfl ⟨rfl, by rw [hhd.out, if_pos HA.out]; exact HH.out.1.below HF.out.1, Kp.of_below HF.out.1⟩
  · rw [ha] at c4
    have HA := Bx.mk ha
    clear ha
    by_cases cb1 : n.b < x.1
    · have d1 : decide (n.b < x.1) = true := decide_eq_true cb1
      have HC := Bx.mk cb1
      clear cb1
      go_wp2_with fail
      exact bodyPost_ret (results_none rfl _ _ _) rfl ⟨rfl, by rw [hhd.out, if_neg (by rw [HA.out]; decide), if_pos HC.out]; exact HH.out.1.below HF.out.1, Kp.of_below HF.out.1⟩
    · have d1 : decide (n.b < x.1) = false := decide_eq_false cb1
      have HC := Bx.mk cb1
      clear cb1
      by_cases cv : n.v < -1
      · have hm : Bx (max n.v (-1) = -1) := ⟨by omega⟩
        by_cases cb2 : x.1 < n.b
        · have d2 : decide (x.1 < n.b) = true := decide_eq_true cb2
          have HD : Bx ((if x.1 < n.b ∨ x.2 < max n.v (-1) then (n.b, max n.v (-1)) else x) = (n.b, (-1))) := ⟨by rw [if_pos (Or.inl cb2), hm.out]⟩
          clear cb2
          go_wp2_with fail
          have hZ : SHd hb mb w.heap.size h.hs n ((Y.setCell ⟨xb, 0, none⟩ (.int .i64 n.b)).setCell ⟨xb, 1, none⟩ (.int .i64 (-1))) ∧ Kp (fun k => k = xb) Y ((Y.setCell ⟨xb, 0, none⟩ (.int .i64 n.b)).setCell ⟨xb, 1, none⟩ (.int .i64 (-1))) ∧ ((Y.setCell ⟨xb, 0, none⟩ (.int .i64 n.b)).setCell ⟨xb, 1, none⟩ (.int .i64 (-1))).heap.size = Y.heap.size := by
            have hk := (Kp.setCell (F := fun k => k = xb) (w := Y) (p := ⟨xb, 0, none⟩) rfl (.int .i64 n.b)).trans (Kp.setCell (F := fun k => k = xb) (p := ⟨xb, 1, none⟩) rfl (.int .i64 (-1)))
            refine ⟨⟨?_, ?_, ?_⟩, hk, by simp⟩
            · exact (World.cell?_of_block (hk.block _ (World.block_lt_of_cell? Y _ hmp) (by have := HXL.out; show hb ≠ xb; omega))).trans hmp
            · exact (hk.block _ (heap_lt HF.out.2.2.1.map) (by have := HXL.out; show mb ≠ xb; omega)).trans HF.out.2.2.1.map
            · exact (World.cell?_of_block (hk.block _ (World.block_lt_of_cell? Y _ hu0) (by have := HXL.out.1; show w.heap.size ≠ xb; omega))).trans hu0
          have hZw : ((Y.setCell ⟨xb, 0, none⟩ (.int .i64 n.b)).setCell ⟨xb, 1, none⟩ (.int .i64 (-1))).heap[xb]? = some (.cells #[I n.b, I (-1)] 122 (0, 0)) := setCell_block (setCell_block HF.out.2.2.2 0 (.int .i64 n.b)) 1 (.int .i64 (-1))
          clear c1 c2 c4 e0 e1 hmp hu0 fz fz1
          generalize hg : (Y.setCell ⟨xb, 0, none⟩ (.int .i64 n.b)).setCell ⟨xb, 1, none⟩ (.int .i64 (-1)) = Z at hZ hZw ⊢
          rw [← hZ.2.2] at hxY
          clear hg
          obtain ⟨hS9, hk9, _⟩ := hZ
          have hmp := hS9.mp
          have hu0 := hS9.u
          have e0 : Z.cell? ⟨xb, 0, none⟩ = some (I n.b) := by rw [cell_of_row _ _ _ _ _ _ hZw]; rfl
          have e1 : Z.cell? ⟨xb, 1, none⟩ = some (I (-1)) := by rw [cell_of_row _ _ _ _ _ _ hZw]; rfl
          have HU := Bx.mk (run_put_word Z mb u h.hs n.u (n.b) ((-1)) HE.out hS9.map HH.out.2.2)
          have HK9 := Bx.mk (And.intro hk9 hS9.map)
          have HXY := Bx.mk hxY
          clear hS9 hk9 hZw
          refine wp_tail 7 (by kernel_rfl) (by kernel_rfl) ?_
          simp only [List.take_succ_cons, List.take_zero, List.drop_succ_cons, List.drop_zero]
          repeat still_step
          refine wpStill_nil ?_
          go_wp2_with (refine wpList_mapUpdate_run rfl _ _ _ _ rfl _ _ _ rfl rfl rfl _ HU.out ?_)
          have hkw : Kp (fun k => k = mb) w Z := Kp.over HF.out.1 HK9.out.1 (Nat.le_of_lt HXL.out.1)
          obtain ⟨hfin1, hfin2⟩ := head_put HH.out.1 hkw hd (h.hs.set u (n.b, (-1)))
          exact bodyPost_end (results_none rfl _ _ _) rfl ⟨rfl, by rw [hhd.out, if_neg (by rw [HA.out]; decide), if_neg (Int.not_lt.2 HC.out), HD.out]; exact hfin1, hfin2⟩
        · have d2 : decide (x.1 < n.b) = false := decide_eq_false cb2
          by_cases cb3 : x.2 < (-1)
          · have d3 : decide (x.2 < (-1)) = true := decide_eq_true cb3
            have HD : Bx ((if x.1 < n.b ∨ x.2 < max n.v (-1) then (n.b, max n.v (-1)) else x) = (n.b, (-1))) := ⟨by rw [if_pos (Or.inr (by rw [hm.out]; exact cb3)), hm.out]⟩
            clear cb2 cb3
            go_wp2_with fail
            have hZ : SHd hb mb w.heap.size h.hs n ((Y.setCell ⟨xb, 0, none⟩ (.int .i64 n.b)).setCell ⟨xb, 1, none⟩ (.int .i64 (-1))) ∧ Kp (fun k => k = xb) Y ((Y.setCell ⟨xb, 0, none⟩ (.int .i64 n.b)).setCell ⟨xb, 1, none⟩ (.int .i64 (-1))) ∧ ((Y.setCell ⟨xb, 0, none⟩ (.int .i64 n.b)).setCell ⟨xb, 1, none⟩ (.int .i64 (-1))).heap.size = Y.heap.size := by
              have hk := (Kp.setCell (F := fun k => k = xb) (w := Y) (p := ⟨xb, 0, none⟩) rfl (.int .i64 n.b)).trans (Kp.setCell (F := fun k => k = xb) (p := ⟨xb, 1, none⟩) rfl (.int .i64 (-1)))
              refine ⟨⟨?_, ?_, ?_⟩, hk, by simp⟩
              · exact (World.cell?_of_block (hk.block _ (World.block_lt_of_cell? Y _ hmp) (by have := HXL.out; show hb ≠ xb; omega))).trans hmp
              · exact (hk.block _ (heap_lt HF.out.2.2.1.map) (by have := HXL.out; show mb ≠ xb; omega)).trans HF.out.2.2.1.map
              · exact (World.cell?_of_block (hk.block _ (World.block_lt_of_cell? Y _ hu0) (by have := HXL.out.1; show w.heap.size ≠ xb; omega))).trans hu0
            have hZw : ((Y.setCell ⟨xb, 0, none⟩ (.int .i64 n.b)).setCell ⟨xb, 1, none⟩ (.int .i64 (-1))).heap[xb]? = some (.cells #[I n.b, I (-1)] 122 (0, 0)) := setCell_block (setCell_block HF.out.2.2.2 0 (.int .i64 n.b)) 1 (.int .i64 (-1))
            clear c1 c2 c4 e0 e1 hmp hu0 fz fz1
            generalize hg : (Y.setCell ⟨xb, 0, none⟩ (.int .i64 n.b)).setCell ⟨xb, 1, none⟩ (.int .i64 (-1)) = Z at hZ hZw ⊢
            rw [← hZ.2.2] at hxY
            clear hg
            obtain ⟨hS9, hk9, _⟩ := hZ
            have hmp := hS9.mp
            have hu0 := hS9.u
            have e0 : Z.cell? ⟨xb, 0, none⟩ = some (I n.b) := by rw [cell_of_row _ _ _ _ _ _ hZw]; rfl
            have e1 : Z.cell? ⟨xb, 1, none⟩ = some (I (-1)) := by rw [cell_of_row _ _ _ _ _ _ hZw]; rfl
            have HU := Bx.mk (run_put_word Z mb u h.hs n.u (n.b) ((-1)) HE.out hS9.map HH.out.2.2)
            have HK9 := Bx.mk (And.intro hk9 hS9.map)
            have HXY := Bx.mk hxY
            clear hS9 hk9 hZw
            refine wp_tail 7 (by kernel_rfl) (by kernel_rfl) ?_
            simp only [List.take_succ_cons, List.take_zero, List.drop_succ_cons, List.drop_zero]
            repeat still_step
            refine wpStill_nil ?_
            go_wp2_with (refine wpList_mapUpdate_run rfl _ _ _ _ rfl _ _ _ rfl rfl rfl _ HU.out ?_)
            have hkw : Kp (fun k => k = mb) w Z := Kp.over HF.out.1 HK9.out.1 (Nat.le_of_lt HXL.out.1)
            obtain ⟨hfin1, hfin2⟩ := head_put HH.out.1 hkw hd (h.hs.set u (n.b, (-1)))
            exact bodyPost_end (results_none rfl _ _ _) rfl ⟨rfl, by rw [hhd.out, if_neg (by rw [HA.out]; decide), if_neg (Int.not_lt.2 HC.out), HD.out]; exact hfin1, hfin2⟩
          · have d3 : decide (x.2 < (-1)) = false := decide_eq_false cb3
            have HD : Bx ((if x.1 < n.b ∨ x.2 < max n.v (-1) then (n.b, max n.v (-1)) else x) = x) := ⟨by rw [if_neg (by rw [hm.out]; omega)]⟩
            clear cb2 cb3
            go_wp2_with fail
            have hZ : SHd hb mb w.heap.size h.hs n Y ∧ Kp (fun k => k = xb) Y Y ∧ Y.heap.size = Y.heap.size := ⟨HF.out.2.2.1, Kp.refl _ _, rfl⟩
            have hZw : Y.heap[xb]? = some (.cells #[I x.1, I x.2] 122 (0, 0)) := HF.out.2.2.2
            clear c1 c2 c4 e0 e1 hmp hu0 fz fz1
            generalize hg : Y = Z at hZ hZw hxY HF ⊢
            clear hg
            obtain ⟨hS9, hk9, _⟩ := hZ
            have hmp := hS9.mp
            have hu0 := hS9.u
            have e0 : Z.cell? ⟨xb, 0, none⟩ = some (I x.1) := by rw [cell_of_row _ _ _ _ _ _ hZw]; rfl
            have e1 : Z.cell? ⟨xb, 1, none⟩ = some (I x.2) := by rw [cell_of_row _ _ _ _ _ _ hZw]; rfl
            have HU := Bx.mk (run_put_word Z mb u h.hs n.u (x.1) (x.2) HE.out hS9.map HH.out.2.2)
            have HK9 := Bx.mk (And.intro hk9 hS9.map)
            have HXY := Bx.mk hxY
            clear hS9 hk9 hZw
            refine wp_tail 7 (by kernel_rfl) (by kernel_rfl) ?_
            simp only [List.take_succ_cons, List.take_zero, List.drop_succ_cons, List.drop_zero]
            repeat still_step
            refine wpStill_nil ?_
            go_wp2_with (refine wpList_mapUpdate_run rfl _ _ _ _ rfl _ _ _ rfl rfl rfl _ HU.out ?_)
            have hkw : Kp (fun k => k = mb) w Z := Kp.over HF.out.1 HK9.out.1 (Nat.le_of_lt HXL.out.1)
            obtain ⟨hfin1, hfin2⟩ := head_put HH.out.1 hkw hd (h.hs.set u (x.1, x.2))
            exact bodyPost_end (results_none rfl _ _ _) rfl ⟨rfl, by rw [hhd.out, if_neg (by rw [HA.out]; decide), if_neg (Int.not_lt.2 HC.out), HD.out]; exact hfin1, hfin2⟩
      · have hm : Bx (max n.v (-1) = n.v) := ⟨by omega⟩
        replace cv : -1 ≤ n.v := by omega
        by_cases cb2 : x.1 < n.b
        · have d2 : decide (x.1 < n.b) = true := decide_eq_true cb2
          have HD : Bx ((if x.1 < n.b ∨ x.2 < max n.v (-1) then (n.b, max n.v (-1)) else x) = (n.b, n.v)) := ⟨by rw [if_pos (Or.inl cb2), hm.out]⟩
          clear cb2
          go_wp2_with fail
          have hZ : SHd hb mb w.heap.size h.hs n ((Y.setCell ⟨xb, 0, none⟩ (.int .i64 n.b)).setCell ⟨xb, 1, none⟩ (.int .i64 n.v)) ∧ Kp (fun k => k = xb) Y ((Y.setCell ⟨xb, 0, none⟩ (.int .i64 n.b)).setCell ⟨xb, 1, none⟩ (.int .i64 n.v)) ∧ ((Y.setCell ⟨xb, 0, none⟩ (.int .i64 n.b)).setCell ⟨xb, 1, none⟩ (.int .i64 n.v)).heap.size = Y.heap.size := by
            have hk := (Kp.setCell (F := fun k => k = xb) (w := Y) (p := ⟨xb, 0, none⟩) rfl (.int .i64 n.b)).trans (Kp.setCell (F := fun k => k = xb) (p := ⟨xb, 1, none⟩) rfl (.int .i64 n.v))
            refine ⟨⟨?_, ?_, ?_⟩, hk, by simp⟩
            · exact (World.cell?_of_block (hk.block _ (World.block_lt_of_cell? Y _ hmp) (by have := HXL.out; show hb ≠ xb; omega))).trans hmp
            · exact (hk.block _ (heap_lt HF.out.2.2.1.map) (by have := HXL.out; show mb ≠ xb; omega)).trans HF.out.2.2.1.map
            · exact (World.cell?_of_block (hk.block _ (World.block_lt_of_cell? Y _ hu0) (by have := HXL.out.1; show w.heap.size ≠ xb; omega))).trans hu0
          have hZw : ((Y.setCell ⟨xb, 0, none⟩ (.int .i64 n.b)).setCell ⟨xb, 1, none⟩ (.int .i64 n.v)).heap[xb]? = some (.cells #[I n.b, I n.v] 122 (0, 0)) := setCell_block (setCell_block HF.out.2.2.2 0 (.int .i64 n.b)) 1 (.int .i64 n.v)
          clear c1 c2 c4 e0 e1 hmp hu0 fz fz1
          generalize hg : (Y.setCell ⟨xb, 0, none⟩ (.int .i64 n.b)).setCell ⟨xb, 1, none⟩ (.int .i64 n.v) = Z at hZ hZw ⊢
          rw [← hZ.2.2] at hxY
          clear hg
          obtain ⟨hS9, hk9, _⟩ := hZ
          have hmp := hS9.mp
          have hu0 := hS9.u
          have e0 : Z.cell? ⟨xb, 0, none⟩ = some (I n.b) := by rw [cell_of_row _ _ _ _ _ _ hZw]; rfl
          have e1 : Z.cell? ⟨xb, 1, none⟩ = some (I n.v) := by rw [cell_of_row _ _ _ _ _ _ hZw]; rfl
          have HU := Bx.mk (run_put_word Z mb u h.hs n.u (n.b) (n.v) HE.out hS9.map HH.out.2.2)
          have HK9 := Bx.mk (And.intro hk9 hS9.map)
          have HXY := Bx.mk hxY
          clear hS9 hk9 hZw
          refine wp_tail 7 (by kernel_rfl) (by kernel_rfl) ?_
          simp only [List.take_succ_cons, List.take_zero, List.drop_succ_cons, List.drop_zero]
          repeat still_step
          refine wpStill_nil ?_
          go_wp2_with (refine wpList_mapUpdate_run rfl _ _ _ _ rfl _ _ _ rfl rfl rfl _ HU.out ?_)
          have hkw : Kp (fun k => k = mb) w Z := Kp.over HF.out.1 HK9.out.1 (Nat.le_of_lt HXL.out.1)
          obtain ⟨hfin1, hfin2⟩ := head_put HH.out.1 hkw hd (h.hs.set u (n.b, n.v))
          exact bodyPost_end (results_none rfl _ _ _) rfl ⟨rfl, by rw [hhd.out, if_neg (by rw [HA.out]; decide), if_neg (Int.not_lt.2 HC.out), HD.out]; exact hfin1, hfin2⟩
        · have d2 : decide (x.1 < n.b) = false := decide_eq_false cb2
          by_cases cb3 : x.2 < n.v
          · have d3 : decide (x.2 < n.v) = true := decide_eq_true cb3
            have HD : Bx ((if x.1 < n.b ∨ x.2 < max n.v (-1) then (n.b, max n.v (-1)) else x) = (n.b, n.v)) := ⟨by rw [if_pos (Or.inr (by rw [hm.out]; exact cb3)), hm.out]⟩
            clear cb2 cb3
            go_wp2_with fail
            have hZ : SHd hb mb w.heap.size h.hs n ((Y.setCell ⟨xb, 0, none⟩ (.int .i64 n.b)).setCell ⟨xb, 1, none⟩ (.int .i64 n.v)) ∧ Kp (fun k => k = xb) Y ((Y.setCell ⟨xb, 0, none⟩ (.int .i64 n.b)).setCell ⟨xb, 1, none⟩ (.int .i64 n.v)) ∧ ((Y.setCell ⟨xb, 0, none⟩ (.int .i64 n.b)).setCell ⟨xb, 1, none⟩ (.int .i64 n.v)).heap.size = Y.heap.size := by
              have hk := (Kp.setCell (F := fun k => k = xb) (w := Y) (p := ⟨xb, 0, none⟩) rfl (.int .i64 n.b)).trans (Kp.setCell (F := fun k => k = xb) (p := ⟨xb, 1, none⟩) rfl (.int .i64 n.v))
              refine ⟨⟨?_, ?_, ?_⟩, hk, by simp⟩
              · exact (World.cell?_of_block (hk.block _ (World.block_lt_of_cell? Y _ hmp) (by have := HXL.out; show hb ≠ xb; omega))).trans hmp
              · exact (hk.block _ (heap_lt HF.out.2.2.1.map) (by have := HXL.out; show mb ≠ xb; omega)).trans HF.out.2.2.1.map
              · exact (World.cell?_of_block (hk.block _ (World.block_lt_of_cell? Y _ hu0) (by have := HXL.out.1; show w.heap.size ≠ xb; omega))).trans hu0
            have hZw : ((Y.setCell ⟨xb, 0, none⟩ (.int .i64 n.b)).setCell ⟨xb, 1, none⟩ (.int .i64 n.v)).heap[xb]? = some (.cells #[I n.b, I n.v] 122 (0, 0)) := setCell_block (setCell_block HF.out.2.2.2 0 (.int .i64 n.b)) 1 (.int .i64 n.v)
            clear c1 c2 c4 e0 e1 hmp hu0 fz fz1
            generalize hg : (Y.setCell ⟨xb, 0, none⟩ (.int .i64 n.b)).setCell ⟨xb, 1, none⟩ (.int .i64 n.v) = Z at hZ hZw ⊢
            rw [← hZ.2.2] at hxY
            clear hg
            obtain ⟨hS9, hk9, _⟩ := hZ
            have hmp := hS9.mp
            have hu0 := hS9.u
            have e0 : Z.cell? ⟨xb, 0, none⟩ = some (I n.b) := by rw [cell_of_row _ _ _ _ _ _ hZw]; rfl
            have e1 : Z.cell? ⟨xb, 1, none⟩ = some (I n.v) := by rw [cell_of_row _ _ _ _ _ _ hZw]; rfl
            have HU := Bx.mk (run_put_word Z mb u h.hs n.u (n.b) (n.v) HE.out hS9.map HH.out.2.2)
            have HK9 := Bx.mk (And.intro hk9 hS9.map)
            have HXY := Bx.mk hxY
            clear hS9 hk9 hZw
            refine wp_tail 7 (by kernel_rfl) (by kernel_rfl) ?_
            simp only [List.take_succ_cons, List.take_zero, List.drop_succ_cons, List.drop_zero]
            repeat still_step
            refine wpStill_nil ?_
            go_wp2_with (refine wpList_mapUpdate_run rfl _ _ _ _ rfl _ _ _ rfl rfl rfl _ HU.out ?_)
            have hkw : Kp (fun k => k = mb) w Z := Kp.over HF.out.1 HK9.out.1 (Nat.le_of_lt HXL.out.1)
            obtain ⟨hfin1, hfin2⟩ := head_put HH.out.1 hkw hd (h.hs.set u (n.b, n.v))
            exact bodyPost_end (results_none rfl _ _ _) rfl ⟨rfl, by rw [hhd.out, if_neg (by rw [HA.out]; decide), if_neg (Int.not_lt.2 HC.out), HD.out]; exact hfin1, hfin2⟩
          · have d3 : decide (x.2 < n.v) = false := decide_eq_false cb3
            have HD : Bx ((if x.1 < n.b ∨ x.2 < max n.v (-1) then (n.b, max n.v (-1)) else x) = x) := ⟨by rw [if_neg (by rw [hm.out]; omega)]⟩
            clear cb2 cb3
            go_wp2_with fail
            have hZ : SHd hb mb w.heap.size h.hs n Y ∧ Kp (fun k => k = xb) Y Y ∧ Y.heap.size = Y.heap.size := ⟨HF.out.2.2.1, Kp.refl _ _, rfl⟩
            have hZw : Y.heap[xb]? = some (.cells #[I x.1, I x.2] 122 (0, 0)) := HF.out.2.2.2
            clear c1 c2 c4 e0 e1 hmp hu0 fz fz1
            generalize hg : Y = Z at hZ hZw hxY HF ⊢
            clear hg
            obtain ⟨hS9, hk9, _⟩ := hZ
            have hmp := hS9.mp
            have hu0 := hS9.u
            have e0 : Z.cell? ⟨xb, 0, none⟩ = some (I x.1) := by rw [cell_of_row _ _ _ _ _ _ hZw]; rfl
            have e1 : Z.cell? ⟨xb, 1, none⟩ = some (I x.2) := by rw [cell_of_row _ _ _ _ _ _ hZw]; rfl
            have HU := Bx.mk (run_put_word Z mb u h.hs n.u (x.1) (x.2) HE.out hS9.map HH.out.2.2)
            have HK9 := Bx.mk (And.intro hk9 hS9.map)
            have HXY := Bx.mk hxY
            clear hS9 hk9 hZw
            refine wp_tail 7 (by kernel_rfl) (by kernel_rfl) ?_
            simp only [List.take_succ_cons, List.take_zero, List.drop_succ_cons, List.drop_zero]
            repeat still_step
            refine wpStill_nil ?_
            go_wp2_with (refine wpList_mapUpdate_run rfl _ _ _ _ rfl _ _ _ rfl rfl rfl _ HU.out ?_)
            have hkw : Kp (fun k => k = mb) w Z := Kp.over HF.out.1 HK9.out.1 (Nat.le_of_lt HXL.out.1)
            obtain ⟨hfin1, hfin2⟩ := head_put HH.out.1 hkw hd (h.hs.set u (x.1, x.2))
            exact bodyPost_end (results_none rfl _ _ _) rfl ⟨rfl, by rw [hhd.out, if_neg (by rw [HA.out]; decide), if_neg (Int.not_lt.2 HC.out), HD.out]; exact hfin1, hfin2⟩
theorem head_Heard (hb mb cb : Nat) (h : He) (n : No) (w : World) (H : HeadAt w hb mb cb h) (hd : hb ≠ mb ∧ cb ≠ mb) :
    Calls Try.prog 39 #[.pointer (some ⟨hb, 0, none⟩), n.val] w fun r w' => r = .returned (.tuple #[]) ∧ HeadAt w' hb mb cb (h.heard n) ∧ Kp (fun k => k = mb) w w' := by
  by_cases hu : n.u < 0 ∨ (h.hs.length : Int) ≤ n.u
  · refine (head_Heard_out hb mb cb h n w H hu).mono ?_
    rintro r w' ⟨rfl, hB⟩
    refine ⟨rfl, ?_, Kp.of_below hB⟩
    unfold He.heard
    rw [if_pos (Or.inr hu)]
    exact H.below hB
  · obtain ⟨u, hu2⟩ : ∃ u : Nat, n.u = u := ⟨n.u.toNat, by omega⟩
    exact head_Heard_in hb mb cb h n w H hd u hu2 (by omega)
end Go.Proofs.Ytimdaceidhdaeaa

namespace Go.Proofs.Ytimdaceidhdaeaa
open Go.RowKit
theorem fold_spl (l : List Value) : ∀ (k : Nat) (C : Array Value), (l.zipIdx k).foldl (fun cs (x : Value × Nat) => cs.setIfInBounds (0 + x.2) x.1) C = spl C k l := by
  induction l with
  | nil => intro k C; rfl
  | cons v r ih => intro k C; simp only [List.zipIdx_cons, List.foldl_cons]; rw [ih]; simp only [spl, Nat.zero_add]
theorem run_buildSlice_one {P : Program} (w : World) (t e : TypeId) (zc cs : Array Value) (ht : P.underlying t = some (.slice e)) (hs : (P.info? e).map (·.size) = some cs.size) (hz : (zeroValue e).run P w = .ok (.agg zc) w)
    (h0 : 0 < cs.size) (h1 : cs.size ≤ 16777216) :
    (Instr.buildSlice t 1 #[(0, .agg cs)]).run P w = .ok (.slice (some ⟨w.heap.size, 0, none⟩) 1 1) (w.alloc (.cells cs e)) := by
  have hf : Instr.fill (fun i => some (i * cs.size, cs.size)) ((Array.range (1 * cs.size)).map (zc[· % zc.size]!)) [(0, .agg cs)] = some cs := by
    have hsz : ((Array.range (1 * cs.size)).map (zc[· % zc.size]!)).size = cs.size := by simp
    have hc : (Value.agg cs).cells = cs := rfl
    simp only [Instr.fill, hc, Nat.zero_mul, hsz]
    have hno : ¬ ((cs.size ≠ cs.size || decide (0 + cs.size > cs.size)) = true) := by simp
    rw [if_neg hno]
    simp only [Option.some.injEq]
    generalize hC : (Array.range (1 * cs.size)).map (zc[· % zc.size]!) = C at hsz
    have h2 := fold_spl cs.toList 0 C
    rw [spl_all C cs.toList (by rw [Array.length_toList, hsz])] at h2
    have h3 : cs.zipIdx = (cs.toList.zipIdx 0).toArray := by
      apply Array.ext'
      simp [Array.toList_zipIdx]
    rw [h3, List.foldl_toArray']
    · exact h2
    · simp
  have hne : ¬ (1 * cs.size = 0) := by omega
  have hbig : ¬ (1 * cs.size > 2 ^ 24) := by omega
  have hcc : (Value.agg zc).cells = zc := rfl
  simp only [Instr.buildSlice, Sem.run_bind, run_underlying ht, Result.andThen_ok, sizeOf_info w e _ hs, if_neg hbig, if_neg hne, hz, hcc, hf, Sem.run_pure, newRow]
  rfl
theorem wpList_buildSlice_run {P : Program} {ops : Array Oper} {Q : Exit → Act → World → Prop} {rest : List Oper} {o : Oper} {a : Act} {w : World} (hg : o.guard = none) (t : TypeId) (k : Nat) (ps : Array (Nat × Operand)) (ho : o.op = .buildSlice t k ps)
    (vs : Array (Nat × Value)) (hv : (ps.map fun (i, x) => (i, a.eval x)) = vs) (v : Value) (w' : World) (hr : (Instr.buildSlice t k vs).run P w = .ok v w') (h : wpList P ops Q rest (a.put o.dst v) w') : wpList P ops Q (o :: rest) a w :=
  wpList_plain hg fun K hK => by
    unfold Oper.wp execOp
    simp only [ho, hv, Sem.run_bind, hr, Result.andThen_ok, Sem.run_pure]
    exact hK _ _ h
theorem exec_build {P : Program} {a : Act} {o : Oper} {w : World} (t : TypeId) (ps : Array (Nat × Operand)) (ho : o.op = .build t ps) (vs : Array (Nat × Value)) (hv : (ps.map fun (i, x) => (i, a.eval x)) = vs) (v : Value) (hr : (Instr.build t vs).run P w = .ok v w) :
    (execOp a.eval o).run P w = .ok (.value v) w := by
  unfold execOp
  simp only [ho, hv, Sem.run_bind, hr, Result.andThen_ok, Sem.run_pure]
end Go.Proofs.Ytimdaceidhdaeaa
