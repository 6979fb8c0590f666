/- Proved: lemmas that the law's proof stands on (HeadC). Conditions: as each states. -/
import Derived.Deep.CutRange
import Derived.Test.YtimdaceidhdaeaaLawTwice08

namespace Go.Proofs.Ytimdaceidhdaeaa
open Go.RowKit Go.Proofs
theorem zero53 (w : World) : (zeroValue 53).run Try.prog w = .ok En.zero.v w := by kernel_rfl
set_option maxHeartbeats 1000000 in
theorem head_publish_none (hb mb cb : Nat) (h : He) (w : World) (H : HeadAt w hb mb cb h) (hq : h.q = []) :
    Calls Try.prog 63 #[.pointer (some ⟨hb, 0, none⟩)] w fun r w' => r = .returned (.tuple #[]) ∧ w' = w := by
  have c0 := H.c330
  obtain ⟨s, r, hc⟩ := H.chan
  rw [hq] at hc
  have HC := Bx.mk hc
  clear hc hq H
  go_enter Try.func63, Try.ntmps63
  go_upto_region 1 with (fail)
  refine wp_region_at (show OpsAt _ _ _ [0, 1, 2] _ _ from ?_)
  refine OpsAt.sel_none (z := En.zero.v) rfl rfl ?_ HC.out ?_
  · exact Go.Proofs.Ytimdaceidhdaeaa.exec_select_recv rfl rfl (zero53 _)
  · refine OpsAt.from 1 ?_
    simp only [List.drop_succ_cons, List.drop_zero]
    go_wp2_with fail
    exact bodyPost_end (results_none rfl _ _ _) rfl ⟨rfl, rfl⟩
theorem build_note (w : World) (a b c : Int) : (Instr.build 86 #[(0, I a), (1, I b), (2, I c)]).run Try.prog w = .ok (.agg (No.cells ⟨a, b, c, false, false, En.zero, Po.zero⟩).toArray) w := by kernel_rfl
theorem NoteAt.range {W : World} {nb : Nat} {n : No} (h : NoteAt W nb n) : W.rangeAt nb 0 n.cells := note_range h.row
structure SSd (hb xb : Nat) (v x : Int) (W : World) : Prop where
  ver : W.cell? ⟨hb, 0, none⟩ = some (I v)
  word : W.cell? ⟨xb, 0, none⟩ = some (I x)
theorem SSd.kp {hb xb : Nat} {v x : Int} {W W' : World} (h : SSd hb xb v x W) (hk : ∀ k, k < W.heap.size → W'.heap[k]? = W.heap[k]?) : SSd hb xb v x W' :=
  ⟨(World.cell?_of_block (hk _ (World.block_lt_of_cell? W _ h.ver))).trans h.ver, (World.cell?_of_block (hk _ (World.block_lt_of_cell? W _ h.word))).trans h.word⟩
theorem run_bs_note (w : World) (n : No) (hn : n.p.ok) : (Instr.buildSlice 72 1 #[(0, .agg n.cells.toArray)]).run Try.prog w = .ok (.slice (some ⟨w.heap.size, 0, none⟩) 1 1) (w.alloc (.cells n.cells.toArray 86)) :=
  run_buildSlice_one w _ _ _ _ Try.underlying72 (size86s n hn) (zero86 w) (by rw [List.size_toArray, No.cells_len _ hn]; decide) (by rw [List.size_toArray, No.cells_len _ hn]; decide)
theorem size53 (e : En) : (Try.prog.info? 53).map (·.size) = some e.cells.length := by rw [En.cells_len]; kernel_rfl
theorem size53s (e : En) : (Try.prog.info? 53).map (·.size) = some e.cells.toArray.size := by rw [List.size_toArray, En.cells_len]; kernel_rfl
/-- Send, in a round: what is said so far, the word, the note at hand. -/
structure Rd (w : World) (hb mb cb xb nb : Nat) (h1 : He) (x : Int × Int) (v : Value) (l : List No) (n : No) (W : World) : Prop where
  word : W.heap[xb]? = some (.cells #[I x.1, I x.2] 122 (0, 0))
  head : HeadAt W hb mb cb h1
  kp : Kp (fun k => k = hb ∨ k = cb) w W
  row : RowOf W 86 342 v l.length (notes l)
  note : NoteAt W nb n
  lt : hb < xb ∧ mb < xb ∧ cb < xb ∧ xb < nb ∧ w.heap.size ≤ nb
  own : ∀ k, v.ownBlock = some k → w.heap.size ≤ k ∧ k ≠ nb
theorem Rd.put {w : World} {hb mb cb xb nb : Nat} {h1 : He} {x : Int × Int} {v : Value} {l : List No} {n n' : No} {W W' : World} (h : Rd w hb mb cb xb nb h1 x v l n W) (hk : Kp (fun k => k = nb) W W') (hn : NoteAt W' nb n') :
    Rd w hb mb cb xb nb h1 x v l n' W' := by
  have hl := h.lt
  have hh := h.head.lts
  have hb2 : ∀ j, j < W.heap.size → j ≠ nb → W'.heap[j]? = W.heap[j]? := fun j h1 h2 => hk.block j h1 h2
  refine ⟨(hb2 _ (heap_lt h.word) (by omega)).trans h.word, h.head.kept (hb2 _ hh.1 (by omega)) (hb2 _ hh.2.1 (by omega)) (hb2 _ hh.2.2 (by omega)), ?_, h.row.kept (fun j hj => hb2 j (h.row.lt j hj) (h.own j hj).2), hn, hl, h.own⟩
  exact ⟨hk.os.trans h.kp.os, hk.tape.trans h.kp.tape, hk.output.trans h.kp.output, Nat.le_trans h.kp.size hk.size, fun j h1 h2 => (hb2 j (Nat.lt_of_lt_of_le h1 h.kp.size) (by omega)).trans (h.kp.block j h1 h2)⟩
theorem Kp.cells {b : Nat} (o : Nat) (vs : List Value) (W : World) : Kp (fun k => k = b) W (W.setCells b o vs) :=
  ⟨(setCells_rest _ _ _).1, (setCells_rest _ _ _).2.1, (setCells_rest _ _ _).2.2, by rw [setCells_size]; exact Nat.le_refl _, fun _ _ hj => setCells_other hj _ _ _⟩
theorem Rd.sd {w : World} {hb mb cb xb nb : Nat} {h1 : He} {x : Int × Int} {v : Value} {l : List No} {n : No} {W : World} (h : Rd w hb mb cb xb nb h1 x v l n W) : SSd hb xb h1.p.ver x.1 W :=
  ⟨h.head.ver, by rw [cell_of_row _ _ _ _ _ _ h.word]; rfl⟩
theorem Rd.drewN {w : World} {hb mb cb xb nb : Nat} {h1 : He} {x : Int × Int} {v : Value} {l : List No} {n : No} {W : World} (h : Rd w hb mb cb xb nb h1 x v l n W) (m : Nat) : Rd w hb mb cb xb nb h1 x v l n (W.drewN m) :=
  ⟨h.word, h.head.kept rfl rfl rfl, ⟨h.kp.os, h.kp.tape, h.kp.output, h.kp.size, h.kp.block⟩, h.row.kept (fun _ _ => rfl), ⟨h.note.row⟩, h.lt, h.own⟩
theorem No.set_e (n : No) (e : En) : spl n.cells.toArray 5 e.cells = ({ n with e := e } : No).cells.toArray := spl_mid [I n.u, I n.b, I n.v, .bool n.whole, .bool n.ack] n.e.cells e.cells n.p.cells (by rw [En.cells_len, En.cells_len])
theorem No.set_whole (n : No) (b : Bool) : n.cells.toArray.setIfInBounds 3 (.bool b) = ({ n with whole := b } : No).cells.toArray := by simp [No.cells]
theorem No.set_p (n : No) (p : Po) (hn : n.p.ok) (hp : p.ok) : spl n.cells.toArray 12 p.cells = ({ n with p := p } : No).cells.toArray := by
  have := spl_mid ([I n.u, I n.b, I n.v, .bool n.whole, .bool n.ack] ++ n.e.cells) n.p.cells p.cells [] (by rw [Po.cells_len _ hn, Po.cells_len _ hp])
  simpa [No.cells, En.cells_len] using this
theorem NoteAt.there {W : World} {nb : Nat} {n : No} (h : NoteAt W nb n) (hn : n.p.ok) (o k : Nat) (hk : o + k ≤ 342) : W.there nb o k :=
  there_of_block h.row o k (by rw [List.size_toArray, No.cells_len _ hn]; exact hk)
structure SPl (hb : Nat) (p : Po) (W : World) : Prop where
  row : W.rangeAt hb 0 p.cells
theorem note_len (h : He) (k : Nat) (x : Int × Int) : (h.note k x).length ≤ 1 := by
  unfold He.note; repeat' split
  all_goals simp
theorem says_len (h : He) (k : Nat) : (h.says k).length ≤ k := by
  induction k with
  | zero => simp [He.says]
  | succ k ih => have := note_len h k (h.hs.getD k (0, 0)); simp only [He.says, List.length_append]; omega
theorem Rd.appended {w : World} {hb mb cb xb nb : Nat} {h1 : He} {x : Int × Int} {v v' : Value} {l : List No} {n : No} {W W2 W' : World} (h : Rd w hb mb cb xb nb h1 x v l n W) (hl : hb < w.heap.size ∧ mb < w.heap.size ∧ cb < w.heap.size)
    (ha : Below W.heap.size W W2) (hg : W2.grownBy W' v.ownBlock) (h4 : ∀ k, v'.ownBlock = some k → v.ownBlock = some k ∨ W2.heap.size ≤ k) :
    HeadAt W' hb mb cb h1 ∧ Kp (fun k => k = hb ∨ k = cb) w W' ∧ (∀ k, v'.ownBlock = some k → w.heap.size ≤ k) := by
  have hs := h.kp.size
  have ha2 := ha.size
  have key : ∀ k, k < w.heap.size → W'.heap[k]? = W.heap[k]? := fun k hk => (hg.block k (by omega) (fun e => by have := (h.own k e.symm).1; omega)).trans (ha.block k (by omega))
  refine ⟨h.head.kept (key _ hl.1) (key _ hl.2.1) (key _ hl.2.2), ⟨hg.os.trans (ha.os.trans h.kp.os), hg.tape.trans (ha.tape.trans h.kp.tape), hg.output.trans (ha.output.trans h.kp.output), Nat.le_trans h.kp.size (Nat.le_trans ha.size hg.size), fun k hk hf => (key k hk).trans (h.kp.block k hk hf)⟩, fun k hk => ?_⟩
  rcases h4 k hk with h5 | h5
  · exact (h.own k h5).1
  · omega
set_option maxHeartbeats 8000000 in
set_option maxRecDepth 100000 in
theorem head_Send (hb mb cb : Nat) (h h1 : He) (w : World) (H : HeadAt w hb mb cb h) (hlen : h1.hs.length ≤ 16) (hv0 : 0 ≤ h1.p.ver) (hv1 : h1.p.ver ≤ 1000000)
    (hP : h.all = true → ∀ W, HeadAt W hb mb cb h → Calls Try.prog 63 #[.pointer (some ⟨hb, 0, none⟩)] W fun r W' => r = .returned (.tuple #[]) ∧ HeadAt W' hb mb cb h1 ∧ Kp (fun k => k = hb ∨ k = cb) W W')
    (hN : h.all = false → h1 = h) :
    Calls Try.prog 36 #[.pointer (some ⟨hb, 0, none⟩)] w fun r w' => ∃ v, r = .returned v ∧ HeadAt w' hb mb cb h1 ∧ RowOf w' 86 342 v (h1.says h1.hs.length).length (notes (h1.says h1.hs.length)) ∧
      Kp (fun k => k = hb ∨ k = cb) w w' ∧ (∀ k, v.ownBlock = some k → w.heap.size ≤ k) ∧ (h1.says h1.hs.length = [] → v = .slice none 0 0) := by
  have HA := Bx.mk (head_all hb mb cb h w H)
  have HH := Bx.mk H
  have hlw := Bx.mk H.lts
  have HP := Bx.mk (And.intro hP hN)
  clear H hP hN
  go_enter Try.func36, Try.ntmps36
  cases ha : h.all
  · rw [ha] at HA
    have HQ := Bx.mk (HP.out.2 ha)
    clear ha
    go_wp2_with (go_at_call 62; refine HA.out.mono ?_; rintro r w1 ⟨rfl, hB⟩; have H1 := HH.out.below hB; rw [← HQ.out] at H1; have hk1 : Kp (fun k => k = hb ∨ k = cb) w w1 := Kp.of_below hB; have c0 := H1.c331; have HL := run_len_map (P := Try.prog) Try.underlying118 H1.map 3; have HX := Bx.mk (And.intro H1 hk1); clear H1 hB hk1)
    clear HA HH HP HQ HL c0
    go_loopg [3, 16] h1.hs.length (fun n v i wr => ∃ k : Nat, n + k = h1.hs.length ∧ i = .int .i64 k ∧ Bx (RowOf wr 86 342 v (h1.says k).length (notes (h1.says k)) ∧ (∀ k, v.ownBlock = some k → w.heap.size ≤ k) ∧ (h1.says k = [] → v = .slice none 0 0)) ∧ HeadAt wr hb mb cb h1 ∧ Kp (fun k => k = hb ∨ k = cb) w wr)
    case atStart => exact ⟨0, rfl, rfl, ⟨⟨by simp [He.says, notes], Or.inl ⟨rfl, rfl⟩⟩, fun k hk => by simp [Value.ownBlock] at hk, fun _ => rfl⟩, HX.out.1, HX.out.2⟩
    case round =>
      obtain ⟨k, hk, rfl, HR, H2, hk2⟩ := hrel
      clear HX
      by_cases hlt : k < h1.hs.length
      · have d1 : decide (k < h1.hs.length) = true := decide_eq_true hlt
        have c0 := H2.c331
        have HK := Bx.mk (run_lookup_in (P := Try.prog) Try.underlying118 Try.underlying3 H2.map hlt false)
        have HS : Bx (h1.says (k + 1) = h1.says k ++ h1.note k (h1.hs.getD k (0, 0))) := ⟨rfl⟩
        generalize h1.hs.getD k (0, 0) = x at HK HS
        have HH := Bx.mk (And.intro H2 (And.intro hk2 hlt))
        clear H2 hk2 hlt
        have hz := fun w => zero122 w
        simp only [Bool.false_eq_true, if_false] at HK
        unfold wdv at HK
        go_upto_region 8 with (refine wpList_lookup_run rfl _ _ _ _ rfl _ _ rfl rfl _ HK.out ?_)
        have hWa := heap_alloc_new wr (.cells #[I x.1, I x.2] 122)
        have HY : HeadAt (wr.alloc (.cells #[I x.1, I x.2] 122)) hb mb cb h1 := HH.out.1.below ((Below.refl _ _).alloc (Nat.le_refl _) _)
        have hkY : Kp (fun k => k = hb ∨ k = cb) w (wr.alloc (.cells #[I x.1, I x.2] 122)) := HH.out.2.1.trans (Kp.of_below ((Below.refl _ _).alloc (Nat.le_refl _) _))
        have HR2 : RowOf (wr.alloc (.cells #[I x.1, I x.2] 122)) 86 342 u3 (h1.says k).length (notes (h1.says k)) := HR.out.1.kept (fun k hk => Below.heap_alloc wr _ k (HR.out.1.lt k hk))
        have hlx := HH.out.1.lts
        generalize wr.heap.size = xb at hWa hlx ⊢
        generalize wr.alloc (.cells #[I x.1, I x.2] 122) = Y at hWa HY hkY HR2 ⊢
        have HO := Bx.mk HR.out.2.1
        have HNl := Bx.mk HR.out.2.2
        clear HR HK c0 hz
        have hS0 : SSd hb xb h1.p.ver x.1 Y := ⟨HY.ver, by rw [cell_of_row _ _ _ _ _ _ hWa]; rfl⟩
        refine wp_region_noPanic ?_
        refine wp_region_held_drew (S := SSd hb xb h1.p.ver x.1) (by kernel_rfl) (hS0.kp (fun _ _ => rfl)) ?_
        intro hS
        have HF : Bx (Y.drew.heap[xb]? = some (.cells #[I x.1, I x.2] 122 (0, 0)) ∧ HeadAt Y.drew hb mb cb h1 ∧ Kp (fun k => k = hb ∨ k = cb) w Y.drew ∧ RowOf Y.drew 86 342 u3 (h1.says k).length (notes (h1.says k))) := ⟨hWa, HY.kept rfl rfl rfl, hkY.trans ⟨rfl, rfl, rfl, Nat.le_refl _, fun _ _ _ => rfl⟩, HR2.kept (fun _ _ => rfl)⟩
        clear hWa HY hkY HR2 hS0
        generalize Y.drew = X at hS HF ⊢
        refine wpAnyH_take (i := 0) (v := ?_) rfl (by kernel_rfl) (by kernel_rfl) (by kernel_rfl) (fun _ _ _ h => h) (Or.inl ⟨by rfl, ?_⟩) (by assumption) ?_
        rotate_left
        · intro W1 h1; have d2 := h1.ver; have d3 := h1.word; clear h1; go_simp; first | done | with_reducible rfl
        simp only [List.getElem_toArray, List.getElem_cons_succ, List.getElem_cons_zero, Act.put, List.setIfInBounds_toArray, List.set_cons_zero, List.set_cons_succ]
        refine wpAnyH_take (i := 1) (v := ?_) rfl (by kernel_rfl) (by kernel_rfl) (by kernel_rfl) (fun _ _ _ h => h) (Or.inl ⟨by rfl, ?_⟩) (by assumption) ?_
        rotate_left
        · intro W1 h1; have d2 := h1.ver; have d3 := h1.word; clear h1; go_simp; first | done | with_reducible rfl
        simp only [List.getElem_toArray, List.getElem_cons_succ, List.getElem_cons_zero, Act.put, List.setIfInBounds_toArray, List.set_cons_zero, List.set_cons_succ]
        refine wpAnyH_take (i := 2) (v := ?_) rfl (by kernel_rfl) (by kernel_rfl) (by kernel_rfl) (fun _ _ _ h => h) (Or.inl ⟨by rfl, ?_⟩) (by assumption) ?_
        rotate_left
        · intro W1 h1; have d2 := h1.ver; have d3 := h1.word; clear h1; go_simp; first | done | with_reducible rfl
        simp only [List.getElem_toArray, List.getElem_cons_succ, List.getElem_cons_zero, Act.put, List.setIfInBounds_toArray, List.set_cons_zero, List.set_cons_succ]
        refine wpAnyH_take (i := 3) (v := ?_) rfl (by kernel_rfl) (by kernel_rfl) (by kernel_rfl) (fun _ _ _ h => h) (Or.inl ⟨by rfl, ?_⟩) (by assumption) ?_
        rotate_left
        · intro W1 h1; have d2 := h1.ver; have d3 := h1.word; clear h1; go_simp; first | done | with_reducible rfl
        simp only [List.getElem_toArray, List.getElem_cons_succ, List.getElem_cons_zero, Act.put, List.setIfInBounds_toArray, List.set_cons_zero, List.set_cons_succ]
        refine wpAnyH_take (i := 4) (v := ?_) rfl (by kernel_rfl) (by kernel_rfl) (by kernel_rfl) (fun _ _ _ h => h) (Or.inl ⟨by rfl, ?_⟩) (by assumption) ?_
        rotate_left
        · intro W1 h1; have d2 := h1.ver; have d3 := h1.word; clear h1; go_simp; first | done | with_reducible rfl
        simp only [List.getElem_toArray, List.getElem_cons_succ, List.getElem_cons_zero, Act.put, List.setIfInBounds_toArray, List.set_cons_zero, List.set_cons_succ]
        refine wpAnyH_take (i := 5) (v := ?_) rfl (by kernel_rfl) (by kernel_rfl) (by kernel_rfl) (fun _ _ _ h => h) (Or.inl ⟨by rfl, ?_⟩) (by assumption) ?_
        rotate_left
        · intro W1 h1; have d2 := h1.ver; have d3 := h1.word; clear h1; go_simp; first | done | with_reducible rfl
        simp only [List.getElem_toArray, List.getElem_cons_succ, List.getElem_cons_zero, Act.put, List.setIfInBounds_toArray, List.set_cons_zero, List.set_cons_succ]
        refine wpAnyH_take (i := 6) (v := ?_) rfl (by kernel_rfl) (by kernel_rfl) (by kernel_rfl) (fun _ _ _ h => h) (Or.inl ⟨by rfl, ?_⟩) (by assumption) ?_
        rotate_left
        · intro W1 h1; have d2 := h1.ver; have d3 := h1.word; clear h1; go_simp; first | done | with_reducible rfl
        simp only [List.getElem_toArray, List.getElem_cons_succ, List.getElem_cons_zero, Act.put, List.setIfInBounds_toArray, List.set_cons_zero, List.set_cons_succ]
        refine wpAnyH_take (i := 7) (v := ?_) rfl (by kernel_rfl) (by kernel_rfl) (by kernel_rfl) (fun _ _ _ h => h) (Or.inl ⟨by rfl, ?_⟩) (by assumption) ?_
        rotate_left
        · intro W1 h1; have d2 := h1.ver; have d3 := h1.word; clear h1; go_simp; first | done | with_reducible rfl
        simp only [List.getElem_toArray, List.getElem_cons_succ, List.getElem_cons_zero, Act.put, List.setIfInBounds_toArray, List.set_cons_zero, List.set_cons_succ]
        refine wpAnyH_take (i := 8) (v := .agg (No.cells ⟨k, x.1, h1.p.ver, false, false, En.zero, Po.zero⟩).toArray) rfl (by kernel_rfl) (by kernel_rfl) (by kernel_rfl) (fun _ _ _ h => h) (Or.inl ⟨by rfl, fun W1 _ => exec_build _ _ rfl #[(0, I k), (1, I x.1), (2, I h1.p.ver)] (by simp [Act.eval]) _ (build_note W1 _ _ _)⟩) (by assumption) ?_
        try simp only [List.getElem_toArray, List.getElem_cons_succ, List.getElem_cons_zero, Act.put, List.setIfInBounds_toArray, List.set_cons_zero, List.set_cons_succ]
        refine wpAnyH_ready (rs := [9]) (by kernel_rfl) (by simp) ?_
        refine AllReadyH.cons rfl (fun K hK => ?_) AllReadyH.nil
        have hz := fun w => zero86 w
        go_simp
        have hXa := heap_alloc_new X (.cells No.zero.cells.toArray 86)
        have hRd : Rd w hb mb cb xb X.heap.size h1 x u3 (h1.says k) No.zero (X.alloc (.cells No.zero.cells.toArray 86)) :=
          ⟨heap_old_at (heap_lt HF.out.1) HF.out.1, HF.out.2.1.below ((Below.refl _ _).alloc (Nat.le_refl _) _), HF.out.2.2.1.trans (Kp.of_below ((Below.refl _ _).alloc (Nat.le_refl _) _)), HF.out.2.2.2.kept (fun k hk => Below.heap_alloc X _ k (HF.out.2.2.2.lt k hk)), ⟨hXa⟩, ⟨hlx.1, hlx.2.1, hlx.2.2, heap_lt HF.out.1, HF.out.2.2.1.size⟩, fun k hk => ⟨HO.out k hk, by have := HF.out.2.2.2.lt k hk; omega⟩⟩
        refine hK.out _ _ hRd.sd (fun _ => ?_)
        clear hK K hS HF hz hXa HO
        generalize X.heap.size = nb at hRd ⊢
        generalize X.alloc (.cells No.zero.cells.toArray 86) = V at hRd ⊢
        refine wpAnyH_ready (rs := [10]) (by kernel_rfl) (by simp) ?_
        refine AllReadyH.cons rfl (fun K hK => ?_) AllReadyH.nil
        rw [if_pos (by rfl)]
        have hNl : (No.mk k x.1 h1.p.ver false false En.zero Po.zero).cells.length = 342 := No.cells_len _ Po.zero_ok
        refine wp_store_mid _ _ _ rfl nb 0 (No.cells ⟨k, x.1, h1.p.ver, false, false, En.zero, Po.zero⟩).toArray rfl rfl (hRd.note.there Po.zero_ok _ _ (by rw [List.size_toArray, hNl]; decide)) (size86s _ Po.zero_ok) (No.one _) ?_
        simp only [List.toList_toArray]
        have hRe : Rd w hb mb cb xb nb h1 x u3 (h1.says k) ⟨k, x.1, h1.p.ver, false, false, En.zero, Po.zero⟩ (V.setCells nb 0 (No.cells ⟨k, x.1, h1.p.ver, false, false, En.zero, Po.zero⟩)) := hRd.put (Kp.cells _ _ _) ⟨row_stored hRd.note.row (by rw [hNl, List.size_toArray, No.cells_len _ Po.zero_ok])⟩
        refine hK.out _ _ hRe.sd (fun _ => ?_)
        clear hK K hRd hNl
        generalize V.setCells nb 0 (No.cells ⟨k, x.1, h1.p.ver, false, false, En.zero, Po.zero⟩) = Z at hRe ⊢
        refine wpAnyH_done (by kernel_rfl) ?_ _
        refine NoPanic.normal ?_
        have c0 := hRe.head.ver
        have c1 : Z.cell? ⟨xb, 1, none⟩ = some (I x.2) := by rw [cell_of_row _ _ _ _ _ _ hRe.word]; rfl
        have hN : Bx (h1.note k x = if h1.p.ver ≤ x.2 then [] else if x.2 = h1.p.ver - 1 ∧ h1.got = true then [⟨k, x.1, h1.p.ver, false, false, h1.last, Po.zero⟩] else [⟨k, x.1, h1.p.ver, true, false, En.zero, h1.p⟩]) := ⟨rfl⟩
        have HRe := Bx.mk hRe
        clear hRe
        by_cases g1 : h1.p.ver ≤ x.2
        · have d2 : decide (h1.p.ver ≤ x.2) = true := decide_eq_true g1
          have G := Bx.mk g1
          clear g1
          go_wp2_with fail
          go_quiet (fail)
          go_wp2_with fail
          go_roundg (gk - 1)
          case measure => have := HH.out.2.2; omega
          case rel =>
            have hR := HRe.out.drewN nq
            have hs : h1.says (k + 1) = h1.says k := by rw [HS.out, hN.out, if_pos G.out, List.append_nil]
            exact ⟨k + 1, by have := HH.out.2.2; omega, by go_num, ⟨by rw [hs]; exact hR.row, fun j hj => (hR.own j hj).1, by rw [hs]; exact HNl.out⟩, hR.head, hR.kp⟩
        · have d2 : decide (h1.p.ver ≤ x.2) = false := decide_eq_false g1
          have c2 := HRe.out.head.c339
          by_cases g2 : x.2 = h1.p.ver - 1 ∧ h1.got = true
          · have d3 : (x.2 == h1.p.ver - 1) = true := by rw [beq_iff_eq]; exact g2.1
            rw [g2.2] at c2
            have hN2 : Bx (h1.note k x = [⟨k, x.1, h1.p.ver, false, false, h1.last, Po.zero⟩]) := ⟨by rw [hN.out, if_neg g1, if_pos g2]⟩
            clear g1 g2 hN
            go_wp2_with fail
            go_quiet (fail)
            have hR9 := HRe.out.drewN nq
            have hc0 := hR9.head.ver
            have hc1 : (Z.drewN nq).cell? ⟨xb, 1, none⟩ = some (I x.2) := by rw [cell_of_row _ _ _ _ _ _ hR9.word]; rfl
            have hc2 : (Z.drewN nq).cell? ⟨hb, 339, none⟩ = some (.bool true) := c2
            clear HRe c0 c1 c2
            generalize Z.drewN nq = Z1 at hR9 hc0 hc1 hc2 ⊢
            clear nq
            have HRe := Bx.mk hR9
            have c0 := hc0
            have c1 := hc1
            have c2 := hc2
            clear hR9 hc0 hc1 hc2
            go_wp2_with fail
            go_quiet (fail)
            have hR9 := HRe.out.drewN nq
            have hc0 := hR9.head.ver
            have hc1 : (Z1.drewN nq).cell? ⟨xb, 1, none⟩ = some (I x.2) := by rw [cell_of_row _ _ _ _ _ _ hR9.word]; rfl
            have hc2 : (Z1.drewN nq).cell? ⟨hb, 339, none⟩ = some (.bool true) := c2
            clear HRe c0 c1 c2
            generalize Z1.drewN nq = Z2 at hR9 hc0 hc1 hc2 ⊢
            clear nq
            have HRe := Bx.mk hR9
            have c0 := hc0
            have c1 := hc1
            have c2 := hc2
            clear hR9 hc0 hc1 hc2
            have HRg := Bx.mk (show Z2.rangeAt hb 332 h1.last.cells from fun j v hv => by rw [HRe.out.head.last j (by have := (List.getElem?_eq_some_iff.1 hv).1; rw [En.cells_len] at this; exact this)]; exact hv)
            have HTh := Bx.mk (HRe.out.note.there Po.zero_ok 5 h1.last.cells.toArray.size (by rw [List.size_toArray, En.cells_len]; decide))
            have HI1 := Bx.mk (size53 h1.last)
            have HI2 := Bx.mk (size53s h1.last)
            have HO1 := Bx.mk (all_oneCell_toArray (En.one h1.last))
            go_wp2_with (first
              | (refine wpList_load_mid rfl 53 _ rfl hb 332 rfl h1.last.cells _ HRg.out Try.underlying53 rfl HI1.out ?_)
              | (refine wpList_store_mid rfl 53 _ _ rfl nb 5 _ rfl rfl HTh.out HI2.out HO1.out ?_
                 simp only [List.toList_toArray]
                 have hR3 : Rd w hb mb cb xb nb h1 x u3 (h1.says k) ⟨k, x.1, h1.p.ver, false, false, h1.last, Po.zero⟩ (Z2.setCells nb 5 h1.last.cells) := HRe.out.put (Kp.cells _ _ _) ⟨by have := setCells_block h1.last.cells 5 _ _ HRe.out.note.row; rw [No.set_e] at this; exact this⟩
                 have HR3 := Bx.mk hR3
                 clear hR3
                 generalize Z2.setCells nb 5 h1.last.cells = T at HR3 ⊢
                 have HNn := Bx.mk HR3.out.note.range
                 have HIn := Bx.mk (size86 (No.mk k x.1 h1.p.ver false false h1.last Po.zero) Po.zero_ok)
                 have HBs := Bx.mk (run_bs_note T (No.mk k x.1 h1.p.ver false false h1.last Po.zero) Po.zero_ok)
                 have hTa : Below T.heap.size T (T.alloc (.cells (No.mk k x.1 h1.p.ver false false h1.last Po.zero).cells.toArray 86)) := (Below.refl _ _).alloc (Nat.le_refl _) _
                 have HTa := Bx.mk (And.intro hTa (And.intro (heap_alloc_new T (.cells (No.mk k x.1 h1.p.ver false false h1.last Po.zero).cells.toArray 86)) (show RowOf (T.alloc (.cells (No.mk k x.1 h1.p.ver false false h1.last Po.zero).cells.toArray 86)) 86 342 u3 (h1.says k).length (notes (h1.says k)) from HR3.out.row.kept (fun j hj => hTa.block j (HR3.out.row.lt j hj)))))
                 clear hTa
                 obtain ⟨i0, hi0, hz0, hz1, hz2⟩ := info_parts info86
                 have HI0 := Bx.mk (And.intro hi0 (And.intro hz0 (And.intro hz1 hz2)))
                 clear hi0 hz0 hz1 hz2)
              | (refine wpList_load_mid rfl 86 _ rfl nb 0 rfl (No.mk k x.1 h1.p.ver false false h1.last Po.zero).cells _ HNn.out Try.underlying86 rfl HIn.out ?_)
              | (refine wpList_buildSlice_run rfl _ _ _ rfl #[(0, .agg (No.mk k x.1 h1.p.ver false false h1.last Po.zero).cells.toArray)] ?_ _ _ HBs.out ?_
                 · simp [Act.eval, Act.put]
                 generalize htb : T.heap.size = tb at HTa ⊢
                 have HTb := Bx.mk htb
                 clear htb
                 generalize T.alloc (.cells (No.mk k x.1 h1.p.ver false false h1.last Po.zero).cells.toArray 86) = T2 at HTa ⊢)
              | (refine wpList_append_row rfl _ _ 72 rfl 86 i0 _ 342 2728 Try.underlying72 HI0.out.1 HI0.out.2.1 HI0.out.2.2.1 HI0.out.2.2.2 ?_ (by decide) u3 (h1.says k).length (notes (h1.says k)) rfl HTa.out.2.2 ⟨tb, 0, none⟩ 1 1 (notes [(No.mk k x.1 h1.p.ver false false h1.last Po.zero)]) rfl ?_ ?_ (notes_one _) ?_ ?_ ?_
                 · show (No.zero.cells.toArray).size = 342
                   rw [List.size_toArray, No.cells_len _ Po.zero_ok]
                 · rw [notes_len _ (fun y hy => by simp at hy; rw [hy]; exact Po.zero_ok)]; rfl
                 · intro j u hu
                   rw [show notes [(No.mk k x.1 h1.p.ver false false h1.last Po.zero)] = (No.mk k x.1 h1.p.ver false false h1.last Po.zero).cells by simp [notes]] at hu
                   rw [Addr.add_lit, Nat.zero_add, cell_of_row _ _ _ _ _ _ HTa.out.2.1, List.getElem?_toArray]
                   exact hu
                 · unfold maxLen; have := says_len h1 k; have := HH.out.2.2; omega
                 · have := says_len h1 k; have := HH.out.2.2; omega
                 intro v' w' h2 h3 h4
                 have HE := Bx.mk (And.intro h2 (And.intro h3 h4))
                 clear h2 h3 h4))
            go_roundg (gk - 1)
            case measure => have := HH.out.2.2; omega
            case rel =>
              have hap := HR3.out.appended hlw.out (by have := HTa.out.1; rw [HTb.out]; exact this) HE.out.2.1 HE.out.2.2
              have hs : h1.says (k + 1) = h1.says k ++ [(No.mk k x.1 h1.p.ver false false h1.last Po.zero)] := by rw [HS.out, hN2.out]
              exact ⟨k + 1, by have := HH.out.2.2; omega, by go_num, ⟨by rw [hs, notes_app, List.length_append]; exact HE.out.1, hap.2.2, fun e => by rw [hs] at e; simp at e⟩, hap.1, hap.2.1⟩
          · have hN2 : Bx (h1.note k x = [⟨k, x.1, h1.p.ver, true, false, En.zero, h1.p⟩]) := ⟨by rw [hN.out, if_neg g1, if_neg g2]⟩
            by_cases g3 : x.2 = h1.p.ver - 1
            · have d3 : (x.2 == h1.p.ver - 1) = true := by rw [beq_iff_eq]; exact g3
              have g4 : h1.got = false := by
                cases hg : h1.got
                · rfl
                · exact absurd ⟨g3, hg⟩ g2
              rw [g4] at c2
              clear g1 g2 g3 g4 hN
              go_wp2_with fail
              go_quiet (fail)
              have hR9 := HRe.out.drewN nq
              have hc0 := hR9.head.ver
              have hc1 : (Z.drewN nq).cell? ⟨xb, 1, none⟩ = some (I x.2) := by rw [cell_of_row _ _ _ _ _ _ hR9.word]; rfl
              have hc2 : (Z.drewN nq).cell? ⟨hb, 339, none⟩ = some (.bool false) := c2
              clear HRe c0 c1 c2
              generalize Z.drewN nq = Z1 at hR9 hc0 hc1 hc2 ⊢
              clear nq
              have HRe := Bx.mk hR9
              have c0 := hc0
              have c1 := hc1
              have c2 := hc2
              clear hR9 hc0 hc1 hc2
              go_wp2_with fail
              go_quiet (fail)
              have hR9 := HRe.out.drewN nq
              have hc0 := hR9.head.ver
              have hc1 : (Z1.drewN nq).cell? ⟨xb, 1, none⟩ = some (I x.2) := by rw [cell_of_row _ _ _ _ _ _ hR9.word]; rfl
              have hc2 : (Z1.drewN nq).cell? ⟨hb, 339, none⟩ = some (.bool false) := c2
              clear HRe c0 c1 c2
              generalize Z1.drewN nq = Z2 at hR9 hc0 hc1 hc2 ⊢
              clear nq
              have HRe := Bx.mk hR9
              have c0 := hc0
              have c1 := hc1
              have c2 := hc2
              clear hR9 hc0 hc1 hc2
              go_wp2_with fail
              have HI33 := Bx.mk (size33 _ HRe.out.head.ok)
              refine wp_region_noPanic ?_
              refine wp_region_held_drew (S := SPl hb h1.p) (by kernel_rfl) ⟨(HRe.out.drewN 1).head.pool⟩ ?_
              intro hS
              have hRa : Rd w hb mb cb xb nb h1 x u3 (h1.says k) ⟨k, x.1, h1.p.ver, false, false, En.zero, Po.zero⟩ Z2.drew := HRe.out.drewN 1
              clear HRe c0 c1 c2
              generalize Z2.drew = ZA at hS hRa ⊢
              refine wpAnyH_take (i := 0) (v := ?_) rfl (by kernel_rfl) (by kernel_rfl) (by kernel_rfl) (fun _ _ _ h => h) (Or.inl ⟨by rfl, ?_⟩) (by assumption) ?_
              rotate_left
              · intro W1 h1; clear h1; go_simp; first | done | with_reducible rfl
              simp only [List.getElem_toArray, List.getElem_cons_succ, List.getElem_cons_zero, Act.put, List.setIfInBounds_toArray, List.set_cons_zero, List.set_cons_succ]
              refine wpAnyH_take (i := 1) (v := ?_) rfl (by kernel_rfl) (by kernel_rfl) (by kernel_rfl) (fun _ _ _ h => h) (Or.inl ⟨by rfl, ?_⟩) (by assumption) ?_
              rotate_left
              · intro W1 h1; clear h1; go_simp; first | done | with_reducible rfl
              simp only [List.getElem_toArray, List.getElem_cons_succ, List.getElem_cons_zero, Act.put, List.setIfInBounds_toArray, List.set_cons_zero, List.set_cons_succ]
              refine wpAnyH_take (i := 2) (v := ?_) rfl (by kernel_rfl) (by kernel_rfl) (by kernel_rfl) (fun _ _ _ h => h) (Or.inl ⟨by rfl, ?_⟩) (by assumption) ?_
              rotate_left
              · intro W1 h1; clear h1; go_simp; first | done | with_reducible rfl
              simp only [List.getElem_toArray, List.getElem_cons_succ, List.getElem_cons_zero, Act.put, List.setIfInBounds_toArray, List.set_cons_zero, List.set_cons_succ]
              refine wpAnyH_take (i := 3) (v := .agg h1.p.cells.toArray) rfl (by kernel_rfl) (by kernel_rfl) (by kernel_rfl) (fun _ _ _ h => h) (yieldsIf_load_mid (by rfl) 33 _ rfl hb 0 rfl h1.p.cells _ (fun W h => h.row) Try.underlying33 rfl HI33.out) (by assumption) ?_
              simp only [List.getElem_toArray, List.getElem_cons_succ, List.getElem_cons_zero, Act.put, List.setIfInBounds_toArray, List.set_cons_zero, List.set_cons_succ]
              refine wpAnyH_take (i := 4) (v := ?_) rfl (by kernel_rfl) (by kernel_rfl) (by kernel_rfl) (fun _ _ _ h => h) (Or.inl ⟨by rfl, ?_⟩) (by assumption) ?_
              rotate_left
              · intro W1 h1; clear h1; go_simp; first | done | with_reducible rfl
              simp only [List.getElem_toArray, List.getElem_cons_succ, List.getElem_cons_zero, Act.put, List.setIfInBounds_toArray, List.set_cons_zero, List.set_cons_succ]
              refine wpAnyH_ready (rs := [5]) (by kernel_rfl) (by simp) ?_
              refine AllReadyH.cons rfl (fun K hK => ?_) AllReadyH.nil
              have c3 := hRa.note.cell 3 _ rfl
              have f3 := frozen_of_row _ _ 3 _ _ hRa.note.row
              clear hS
              go_simp
              have hRb : Rd w hb mb cb xb nb h1 x u3 (h1.says k) ⟨k, x.1, h1.p.ver, true, false, En.zero, Po.zero⟩ (ZA.setCell ⟨nb, 3, none⟩ (.bool true)) := hRa.put (Kp.setCell (F := fun k => k = nb) (p := ⟨nb, 3, none⟩) rfl _) ⟨by have := setCell_block hRa.note.row 3 (.bool true); rw [No.set_whole] at this; exact this⟩
              refine hK.out _ _ ⟨hRb.head.pool⟩ (fun hS => ?_)
              clear hK K hRa c3 f3
              generalize ZA.setCell ⟨nb, 3, none⟩ (.bool true) = ZB at hS hRb ⊢
              refine wpAnyH_take (i := 6) (v := ?_) rfl (by kernel_rfl) (by kernel_rfl) (by kernel_rfl) (fun _ _ _ h => h) (Or.inl ⟨by rfl, ?_⟩) (by assumption) ?_
              rotate_left
              · intro W1 h1; clear h1; go_simp; first | done | with_reducible rfl
              simp only [List.getElem_toArray, List.getElem_cons_succ, List.getElem_cons_zero, Act.put, List.setIfInBounds_toArray, List.set_cons_zero, List.set_cons_succ]
              refine wpAnyH_ready (rs := [7]) (by kernel_rfl) (by simp) ?_
              refine AllReadyH.cons rfl (fun K hK => ?_) AllReadyH.nil
              clear hS
              rw [if_pos (by rfl)]
              refine wp_store_mid _ _ _ rfl nb 12 h1.p.cells.toArray rfl rfl (hRb.note.there Po.zero_ok _ _ (by rw [List.size_toArray, Po.cells_len _ hRb.head.ok]; decide)) (size33s _ hRb.head.ok) (Po.one _) ?_
              simp only [List.toList_toArray]
              have hRc : Rd w hb mb cb xb nb h1 x u3 (h1.says k) ⟨k, x.1, h1.p.ver, true, false, En.zero, h1.p⟩ (ZB.setCells nb 12 h1.p.cells) := hRb.put (Kp.cells _ _ _) ⟨by have := setCells_block h1.p.cells 12 _ _ hRb.note.row; rw [No.set_p _ _ Po.zero_ok hRb.head.ok] at this; exact this⟩
              refine hK.out _ _ ⟨hRc.head.pool⟩ (fun _ => ?_)
              clear hK K hRb
              generalize ZB.setCells nb 12 h1.p.cells = T at hRc ⊢
              refine wpAnyH_done (by kernel_rfl) ?_ _
              refine NoPanic.normal ?_
              have HR3 := Bx.mk hRc
              have hpk := Bx.mk hRc.head.ok
              clear hRc
              (skip
               have HNn := Bx.mk HR3.out.note.range
               have HIn := Bx.mk (size86 (No.mk k x.1 h1.p.ver true false En.zero h1.p) hpk.out)
               have HBs := Bx.mk (run_bs_note T (No.mk k x.1 h1.p.ver true false En.zero h1.p) hpk.out)
               have hTa : Below T.heap.size T (T.alloc (.cells (No.mk k x.1 h1.p.ver true false En.zero h1.p).cells.toArray 86)) := (Below.refl _ _).alloc (Nat.le_refl _) _
               have HTa := Bx.mk (And.intro hTa (And.intro (heap_alloc_new T (.cells (No.mk k x.1 h1.p.ver true false En.zero h1.p).cells.toArray 86)) (show RowOf (T.alloc (.cells (No.mk k x.1 h1.p.ver true false En.zero h1.p).cells.toArray 86)) 86 342 u3 (h1.says k).length (notes (h1.says k)) from HR3.out.row.kept (fun j hj => hTa.block j (HR3.out.row.lt j hj)))))
               clear hTa
               obtain ⟨i0, hi0, hz0, hz1, hz2⟩ := info_parts info86
               have HI0 := Bx.mk (And.intro hi0 (And.intro hz0 (And.intro hz1 hz2)))
               clear hi0 hz0 hz1 hz2)
              go_wp2_with (first
                | (refine wpList_load_mid rfl 86 _ rfl nb 0 rfl (No.mk k x.1 h1.p.ver true false En.zero h1.p).cells _ HNn.out Try.underlying86 rfl HIn.out ?_)
                | (refine wpList_buildSlice_run rfl _ _ _ rfl #[(0, .agg (No.mk k x.1 h1.p.ver true false En.zero h1.p).cells.toArray)] ?_ _ _ HBs.out ?_
                   · simp [Act.eval, Act.put]
                   generalize htb : T.heap.size = tb at HTa ⊢
                   have HTb := Bx.mk htb
                   clear htb
                   generalize T.alloc (.cells (No.mk k x.1 h1.p.ver true false En.zero h1.p).cells.toArray 86) = T2 at HTa ⊢)
                | (refine wpList_append_row rfl _ _ 72 rfl 86 i0 _ 342 2728 Try.underlying72 HI0.out.1 HI0.out.2.1 HI0.out.2.2.1 HI0.out.2.2.2 ?_ (by decide) u3 (h1.says k).length (notes (h1.says k)) rfl HTa.out.2.2 ⟨tb, 0, none⟩ 1 1 (notes [(No.mk k x.1 h1.p.ver true false En.zero h1.p)]) rfl ?_ ?_ (notes_one _) ?_ ?_ ?_
                   · show (No.zero.cells.toArray).size = 342
                     rw [List.size_toArray, No.cells_len _ Po.zero_ok]
                   · rw [notes_len _ (fun y hy => by simp at hy; rw [hy]; exact hpk.out)]; rfl
                   · intro j u hu
                     rw [show notes [(No.mk k x.1 h1.p.ver true false En.zero h1.p)] = (No.mk k x.1 h1.p.ver true false En.zero h1.p).cells by simp [notes]] at hu
                     rw [Addr.add_lit, Nat.zero_add, cell_of_row _ _ _ _ _ _ HTa.out.2.1, List.getElem?_toArray]
                     exact hu
                   · unfold maxLen; have := says_len h1 k; have := HH.out.2.2; omega
                   · have := says_len h1 k; have := HH.out.2.2; omega
                   intro v' w' h2 h3 h4
                   have HE := Bx.mk (And.intro h2 (And.intro h3 h4))
                   clear h2 h3 h4))
              go_roundg (gk - 1)
              case measure => have := HH.out.2.2; omega
              case rel =>
                have hap := HR3.out.appended hlw.out (by have := HTa.out.1; rw [HTb.out]; exact this) HE.out.2.1 HE.out.2.2
                have hs : h1.says (k + 1) = h1.says k ++ [(No.mk k x.1 h1.p.ver true false En.zero h1.p)] := by rw [HS.out, hN2.out]
                exact ⟨k + 1, by have := HH.out.2.2; omega, by go_num, ⟨by rw [hs, notes_app, List.length_append]; exact HE.out.1, hap.2.2, fun e => by rw [hs] at e; simp at e⟩, hap.1, hap.2.1⟩
            · have d3 : (x.2 == h1.p.ver - 1) = false := by rw [beq_eq_false_iff_ne]; exact g3
              clear g1 g2 g3 hN
              go_wp2_with fail
              go_quiet (fail)
              have hR9 := HRe.out.drewN nq
              have hc0 := hR9.head.ver
              have hc1 : (Z.drewN nq).cell? ⟨xb, 1, none⟩ = some (I x.2) := by rw [cell_of_row _ _ _ _ _ _ hR9.word]; rfl
              have hc2 : (Z.drewN nq).cell? ⟨hb, 339, none⟩ = some (.bool h1.got) := c2
              clear HRe c0 c1 c2
              generalize Z.drewN nq = Z1 at hR9 hc0 hc1 hc2 ⊢
              clear nq
              have HRe := Bx.mk hR9
              have c0 := hc0
              have c1 := hc1
              have c2 := hc2
              clear hR9 hc0 hc1 hc2
              go_wp2_with fail
              go_quiet (fail)
              have hR9 := HRe.out.drewN nq
              have hc0 := hR9.head.ver
              have hc1 : (Z1.drewN nq).cell? ⟨xb, 1, none⟩ = some (I x.2) := by rw [cell_of_row _ _ _ _ _ _ hR9.word]; rfl
              have hc2 : (Z1.drewN nq).cell? ⟨hb, 339, none⟩ = some (.bool h1.got) := c2
              clear HRe c0 c1 c2
              generalize Z1.drewN nq = Z2 at hR9 hc0 hc1 hc2 ⊢
              clear nq
              have HRe := Bx.mk hR9
              have c0 := hc0
              have c1 := hc1
              have c2 := hc2
              clear hR9 hc0 hc1 hc2
              go_wp2_with fail
              have HI33 := Bx.mk (size33 _ HRe.out.head.ok)
              refine wp_region_noPanic ?_
              refine wp_region_held_drew (S := SPl hb h1.p) (by kernel_rfl) ⟨(HRe.out.drewN 1).head.pool⟩ ?_
              intro hS
              have hRa : Rd w hb mb cb xb nb h1 x u3 (h1.says k) ⟨k, x.1, h1.p.ver, false, false, En.zero, Po.zero⟩ Z2.drew := HRe.out.drewN 1
              clear HRe c0 c1 c2
              generalize Z2.drew = ZA at hS hRa ⊢
              refine wpAnyH_take (i := 0) (v := ?_) rfl (by kernel_rfl) (by kernel_rfl) (by kernel_rfl) (fun _ _ _ h => h) (Or.inl ⟨by rfl, ?_⟩) (by assumption) ?_
              rotate_left
              · intro W1 h1; clear h1; go_simp; first | done | with_reducible rfl
              simp only [List.getElem_toArray, List.getElem_cons_succ, List.getElem_cons_zero, Act.put, List.setIfInBounds_toArray, List.set_cons_zero, List.set_cons_succ]
              refine wpAnyH_take (i := 1) (v := ?_) rfl (by kernel_rfl) (by kernel_rfl) (by kernel_rfl) (fun _ _ _ h => h) (Or.inl ⟨by rfl, ?_⟩) (by assumption) ?_
              rotate_left
              · intro W1 h1; clear h1; go_simp; first | done | with_reducible rfl
              simp only [List.getElem_toArray, List.getElem_cons_succ, List.getElem_cons_zero, Act.put, List.setIfInBounds_toArray, List.set_cons_zero, List.set_cons_succ]
              refine wpAnyH_take (i := 2) (v := ?_) rfl (by kernel_rfl) (by kernel_rfl) (by kernel_rfl) (fun _ _ _ h => h) (Or.inl ⟨by rfl, ?_⟩) (by assumption) ?_
              rotate_left
              · intro W1 h1; clear h1; go_simp; first | done | with_reducible rfl
              simp only [List.getElem_toArray, List.getElem_cons_succ, List.getElem_cons_zero, Act.put, List.setIfInBounds_toArray, List.set_cons_zero, List.set_cons_succ]
              refine wpAnyH_take (i := 3) (v := .agg h1.p.cells.toArray) rfl (by kernel_rfl) (by kernel_rfl) (by kernel_rfl) (fun _ _ _ h => h) (yieldsIf_load_mid (by rfl) 33 _ rfl hb 0 rfl h1.p.cells _ (fun W h => h.row) Try.underlying33 rfl HI33.out) (by assumption) ?_
              simp only [List.getElem_toArray, List.getElem_cons_succ, List.getElem_cons_zero, Act.put, List.setIfInBounds_toArray, List.set_cons_zero, List.set_cons_succ]
              refine wpAnyH_take (i := 4) (v := ?_) rfl (by kernel_rfl) (by kernel_rfl) (by kernel_rfl) (fun _ _ _ h => h) (Or.inl ⟨by rfl, ?_⟩) (by assumption) ?_
              rotate_left
              · intro W1 h1; clear h1; go_simp; first | done | with_reducible rfl
              simp only [List.getElem_toArray, List.getElem_cons_succ, List.getElem_cons_zero, Act.put, List.setIfInBounds_toArray, List.set_cons_zero, List.set_cons_succ]
              refine wpAnyH_ready (rs := [5]) (by kernel_rfl) (by simp) ?_
              refine AllReadyH.cons rfl (fun K hK => ?_) AllReadyH.nil
              have c3 := hRa.note.cell 3 _ rfl
              have f3 := frozen_of_row _ _ 3 _ _ hRa.note.row
              clear hS
              go_simp
              have hRb : Rd w hb mb cb xb nb h1 x u3 (h1.says k) ⟨k, x.1, h1.p.ver, true, false, En.zero, Po.zero⟩ (ZA.setCell ⟨nb, 3, none⟩ (.bool true)) := hRa.put (Kp.setCell (F := fun k => k = nb) (p := ⟨nb, 3, none⟩) rfl _) ⟨by have := setCell_block hRa.note.row 3 (.bool true); rw [No.set_whole] at this; exact this⟩
              refine hK.out _ _ ⟨hRb.head.pool⟩ (fun hS => ?_)
              clear hK K hRa c3 f3
              generalize ZA.setCell ⟨nb, 3, none⟩ (.bool true) = ZB at hS hRb ⊢
              refine wpAnyH_take (i := 6) (v := ?_) rfl (by kernel_rfl) (by kernel_rfl) (by kernel_rfl) (fun _ _ _ h => h) (Or.inl ⟨by rfl, ?_⟩) (by assumption) ?_
              rotate_left
              · intro W1 h1; clear h1; go_simp; first | done | with_reducible rfl
              simp only [List.getElem_toArray, List.getElem_cons_succ, List.getElem_cons_zero, Act.put, List.setIfInBounds_toArray, List.set_cons_zero, List.set_cons_succ]
              refine wpAnyH_ready (rs := [7]) (by kernel_rfl) (by simp) ?_
              refine AllReadyH.cons rfl (fun K hK => ?_) AllReadyH.nil
              clear hS
              rw [if_pos (by rfl)]
              refine wp_store_mid _ _ _ rfl nb 12 h1.p.cells.toArray rfl rfl (hRb.note.there Po.zero_ok _ _ (by rw [List.size_toArray, Po.cells_len _ hRb.head.ok]; decide)) (size33s _ hRb.head.ok) (Po.one _) ?_
              simp only [List.toList_toArray]
              have hRc : Rd w hb mb cb xb nb h1 x u3 (h1.says k) ⟨k, x.1, h1.p.ver, true, false, En.zero, h1.p⟩ (ZB.setCells nb 12 h1.p.cells) := hRb.put (Kp.cells _ _ _) ⟨by have := setCells_block h1.p.cells 12 _ _ hRb.note.row; rw [No.set_p _ _ Po.zero_ok hRb.head.ok] at this; exact this⟩
              refine hK.out _ _ ⟨hRc.head.pool⟩ (fun _ => ?_)
              clear hK K hRb
              generalize ZB.setCells nb 12 h1.p.cells = T at hRc ⊢
              refine wpAnyH_done (by kernel_rfl) ?_ _
              refine NoPanic.normal ?_
              have HR3 := Bx.mk hRc
              have hpk := Bx.mk hRc.head.ok
              clear hRc
              (skip
               have HNn := Bx.mk HR3.out.note.range
               have HIn := Bx.mk (size86 (No.mk k x.1 h1.p.ver true false En.zero h1.p) hpk.out)
               have HBs := Bx.mk (run_bs_note T (No.mk k x.1 h1.p.ver true false En.zero h1.p) hpk.out)
               have hTa : Below T.heap.size T (T.alloc (.cells (No.mk k x.1 h1.p.ver true false En.zero h1.p).cells.toArray 86)) := (Below.refl _ _).alloc (Nat.le_refl _) _
               have HTa := Bx.mk (And.intro hTa (And.intro (heap_alloc_new T (.cells (No.mk k x.1 h1.p.ver true false En.zero h1.p).cells.toArray 86)) (show RowOf (T.alloc (.cells (No.mk k x.1 h1.p.ver true false En.zero h1.p).cells.toArray 86)) 86 342 u3 (h1.says k).length (notes (h1.says k)) from HR3.out.row.kept (fun j hj => hTa.block j (HR3.out.row.lt j hj)))))
               clear hTa
               obtain ⟨i0, hi0, hz0, hz1, hz2⟩ := info_parts info86
               have HI0 := Bx.mk (And.intro hi0 (And.intro hz0 (And.intro hz1 hz2)))
               clear hi0 hz0 hz1 hz2)
              go_wp2_with (first
                | (refine wpList_load_mid rfl 86 _ rfl nb 0 rfl (No.mk k x.1 h1.p.ver true false En.zero h1.p).cells _ HNn.out Try.underlying86 rfl HIn.out ?_)
                | (refine wpList_buildSlice_run rfl _ _ _ rfl #[(0, .agg (No.mk k x.1 h1.p.ver true false En.zero h1.p).cells.toArray)] ?_ _ _ HBs.out ?_
                   · simp [Act.eval, Act.put]
                   generalize htb : T.heap.size = tb at HTa ⊢
                   have HTb := Bx.mk htb
                   clear htb
                   generalize T.alloc (.cells (No.mk k x.1 h1.p.ver true false En.zero h1.p).cells.toArray 86) = T2 at HTa ⊢)
                | (refine wpList_append_row rfl _ _ 72 rfl 86 i0 _ 342 2728 Try.underlying72 HI0.out.1 HI0.out.2.1 HI0.out.2.2.1 HI0.out.2.2.2 ?_ (by decide) u3 (h1.says k).length (notes (h1.says k)) rfl HTa.out.2.2 ⟨tb, 0, none⟩ 1 1 (notes [(No.mk k x.1 h1.p.ver true false En.zero h1.p)]) rfl ?_ ?_ (notes_one _) ?_ ?_ ?_
                   · show (No.zero.cells.toArray).size = 342
                     rw [List.size_toArray, No.cells_len _ Po.zero_ok]
                   · rw [notes_len _ (fun y hy => by simp at hy; rw [hy]; exact hpk.out)]; rfl
                   · intro j u hu
                     rw [show notes [(No.mk k x.1 h1.p.ver true false En.zero h1.p)] = (No.mk k x.1 h1.p.ver true false En.zero h1.p).cells by simp [notes]] at hu
                     rw [Addr.add_lit, Nat.zero_add, cell_of_row _ _ _ _ _ _ HTa.out.2.1, List.getElem?_toArray]
                     exact hu
                   · unfold maxLen; have := says_len h1 k; have := HH.out.2.2; omega
                   · have := says_len h1 k; have := HH.out.2.2; omega
                   intro v' w' h2 h3 h4
                   have HE := Bx.mk (And.intro h2 (And.intro h3 h4))
                   clear h2 h3 h4))
              go_roundg (gk - 1)
              case measure => have := HH.out.2.2; omega
              case rel =>
                have hap := HR3.out.appended hlw.out (by have := HTa.out.1; rw [HTb.out]; exact this) HE.out.2.1 HE.out.2.2
                have hs : h1.says (k + 1) = h1.says k ++ [(No.mk k x.1 h1.p.ver true false En.zero h1.p)] := by rw [HS.out, hN2.out]
                exact ⟨k + 1, by have := HH.out.2.2; omega, by go_num, ⟨by rw [hs, notes_app, List.length_append]; exact HE.out.1, hap.2.2, fun e => by rw [hs] at e; simp at e⟩, hap.1, hap.2.1⟩
      · have hkl : k = h1.hs.length := by omega
        have d1 : decide (k < h1.hs.length) = false := decide_eq_false hlt
        have HK := Bx.mk hkl
        clear hkl hlt
        go_wp2_with fail
        go_ret
        exact ⟨u3, rfl, H2, by rw [← HK.out]; exact HR.out.1, hk2, HR.out.2.1, by rw [← HK.out]; exact HR.out.2.2⟩
  · rw [ha] at HA
    have HQ := Bx.mk (HP.out.1 ha)
    clear ha
    go_wp2_with (first
      | (go_at_call 62; refine HA.out.mono ?_; rintro r w0 ⟨rfl, hB⟩; have HB := Bx.mk hB; clear hB)
      | (go_at_call 63; refine (HQ.out _ (HH.out.below HB.out)).mono ?_; rintro r w1 ⟨rfl, H1, hk⟩; have hk1 : Kp (fun k => k = hb ∨ k = cb) w w1 := (Kp.of_below HB.out).trans hk; have c0 := H1.c331; have HL := run_len_map (P := Try.prog) Try.underlying118 H1.map 3; have HX := Bx.mk (And.intro H1 hk1); clear H1 hk1 hk HB))
    clear HA HH HP HQ HL c0
    go_loopg [3, 16] h1.hs.length (fun n v i wr => ∃ k : Nat, n + k = h1.hs.length ∧ i = .int .i64 k ∧ Bx (RowOf wr 86 342 v (h1.says k).length (notes (h1.says k)) ∧ (∀ k, v.ownBlock = some k → w.heap.size ≤ k) ∧ (h1.says k = [] → v = .slice none 0 0)) ∧ HeadAt wr hb mb cb h1 ∧ Kp (fun k => k = hb ∨ k = cb) w wr)
    case atStart => exact ⟨0, rfl, rfl, ⟨⟨by simp [He.says, notes], Or.inl ⟨rfl, rfl⟩⟩, fun k hk => by simp [Value.ownBlock] at hk, fun _ => rfl⟩, HX.out.1, HX.out.2⟩
    case round =>
      obtain ⟨k, hk, rfl, HR, H2, hk2⟩ := hrel
      clear HX
      by_cases hlt : k < h1.hs.length
      · have d1 : decide (k < h1.hs.length) = true := decide_eq_true hlt
        have c0 := H2.c331
        have HK := Bx.mk (run_lookup_in (P := Try.prog) Try.underlying118 Try.underlying3 H2.map hlt false)
        have HS : Bx (h1.says (k + 1) = h1.says k ++ h1.note k (h1.hs.getD k (0, 0))) := ⟨rfl⟩
        generalize h1.hs.getD k (0, 0) = x at HK HS
        have HH := Bx.mk (And.intro H2 (And.intro hk2 hlt))
        clear H2 hk2 hlt
        have hz := fun w => zero122 w
        simp only [Bool.false_eq_true, if_false] at HK
        unfold wdv at HK
        go_upto_region 8 with (refine wpList_lookup_run rfl _ _ _ _ rfl _ _ rfl rfl _ HK.out ?_)
        have hWa := heap_alloc_new wr (.cells #[I x.1, I x.2] 122)
        have HY : HeadAt (wr.alloc (.cells #[I x.1, I x.2] 122)) hb mb cb h1 := HH.out.1.below ((Below.refl _ _).alloc (Nat.le_refl _) _)
        have hkY : Kp (fun k => k = hb ∨ k = cb) w (wr.alloc (.cells #[I x.1, I x.2] 122)) := HH.out.2.1.trans (Kp.of_below ((Below.refl _ _).alloc (Nat.le_refl _) _))
        have HR2 : RowOf (wr.alloc (.cells #[I x.1, I x.2] 122)) 86 342 u3 (h1.says k).length (notes (h1.says k)) := HR.out.1.kept (fun k hk => Below.heap_alloc wr _ k (HR.out.1.lt k hk))
        have hlx := HH.out.1.lts
        generalize wr.heap.size = xb at hWa hlx ⊢
        generalize wr.alloc (.cells #[I x.1, I x.2] 122) = Y at hWa HY hkY HR2 ⊢
        have HO := Bx.mk HR.out.2.1
        have HNl := Bx.mk HR.out.2.2
        clear HR HK c0 hz
        have hS0 : SSd hb xb h1.p.ver x.1 Y := ⟨HY.ver, by rw [cell_of_row _ _ _ _ _ _ hWa]; rfl⟩
        refine wp_region_noPanic ?_
        refine wp_region_held_drew (S := SSd hb xb h1.p.ver x.1) (by kernel_rfl) (hS0.kp (fun _ _ => rfl)) ?_
        intro hS
        have HF : Bx (Y.drew.heap[xb]? = some (.cells #[I x.1, I x.2] 122 (0, 0)) ∧ HeadAt Y.drew hb mb cb h1 ∧ Kp (fun k => k = hb ∨ k = cb) w Y.drew ∧ RowOf Y.drew 86 342 u3 (h1.says k).length (notes (h1.says k))) := ⟨hWa, HY.kept rfl rfl rfl, hkY.trans ⟨rfl, rfl, rfl, Nat.le_refl _, fun _ _ _ => rfl⟩, HR2.kept (fun _ _ => rfl)⟩
        clear hWa HY hkY HR2 hS0
        generalize Y.drew = X at hS HF ⊢
        refine wpAnyH_take (i := 0) (v := ?_) rfl (by kernel_rfl) (by kernel_rfl) (by kernel_rfl) (fun _ _ _ h => h) (Or.inl ⟨by rfl, ?_⟩) (by assumption) ?_
        rotate_left
        · intro W1 h1; have d2 := h1.ver; have d3 := h1.word; clear h1; go_simp; first | done | with_reducible rfl
        simp only [List.getElem_toArray, List.getElem_cons_succ, List.getElem_cons_zero, Act.put, List.setIfInBounds_toArray, List.set_cons_zero, List.set_cons_succ]
        refine wpAnyH_take (i := 1) (v := ?_) rfl (by kernel_rfl) (by kernel_rfl) (by kernel_rfl) (fun _ _ _ h => h) (Or.inl ⟨by rfl, ?_⟩) (by assumption) ?_
        rotate_left
        · intro W1 h1; have d2 := h1.ver; have d3 := h1.word; clear h1; go_simp; first | done | with_reducible rfl
        simp only [List.getElem_toArray, List.getElem_cons_succ, List.getElem_cons_zero, Act.put, List.setIfInBounds_toArray, List.set_cons_zero, List.set_cons_succ]
        refine wpAnyH_take (i := 2) (v := ?_) rfl (by kernel_rfl) (by kernel_rfl) (by kernel_rfl) (fun _ _ _ h => h) (Or.inl ⟨by rfl, ?_⟩) (by assumption) ?_
        rotate_left
        · intro W1 h1; have d2 := h1.ver; have d3 := h1.word; clear h1; go_simp; first | done | with_reducible rfl
        simp only [List.getElem_toArray, List.getElem_cons_succ, List.getElem_cons_zero, Act.put, List.setIfInBounds_toArray, List.set_cons_zero, List.set_cons_succ]
        refine wpAnyH_take (i := 3) (v := ?_) rfl (by kernel_rfl) (by kernel_rfl) (by kernel_rfl) (fun _ _ _ h => h) (Or.inl ⟨by rfl, ?_⟩) (by assumption) ?_
        rotate_left
        · intro W1 h1; have d2 := h1.ver; have d3 := h1.word; clear h1; go_simp; first | done | with_reducible rfl
        simp only [List.getElem_toArray, List.getElem_cons_succ, List.getElem_cons_zero, Act.put, List.setIfInBounds_toArray, List.set_cons_zero, List.set_cons_succ]
        refine wpAnyH_take (i := 4) (v := ?_) rfl (by kernel_rfl) (by kernel_rfl) (by kernel_rfl) (fun _ _ _ h => h) (Or.inl ⟨by rfl, ?_⟩) (by assumption) ?_
        rotate_left
        · intro W1 h1; have d2 := h1.ver; have d3 := h1.word; clear h1; go_simp; first | done | with_reducible rfl
        simp only [List.getElem_toArray, List.getElem_cons_succ, List.getElem_cons_zero, Act.put, List.setIfInBounds_toArray, List.set_cons_zero, List.set_cons_succ]
        refine wpAnyH_take (i := 5) (v := ?_) rfl (by kernel_rfl) (by kernel_rfl) (by kernel_rfl) (fun _ _ _ h => h) (Or.inl ⟨by rfl, ?_⟩) (by assumption) ?_
        rotate_left
        · intro W1 h1; have d2 := h1.ver; have d3 := h1.word; clear h1; go_simp; first | done | with_reducible rfl
        simp only [List.getElem_toArray, List.getElem_cons_succ, List.getElem_cons_zero, Act.put, List.setIfInBounds_toArray, List.set_cons_zero, List.set_cons_succ]
        refine wpAnyH_take (i := 6) (v := ?_) rfl (by kernel_rfl) (by kernel_rfl) (by kernel_rfl) (fun _ _ _ h => h) (Or.inl ⟨by rfl, ?_⟩) (by assumption) ?_
        rotate_left
        · intro W1 h1; have d2 := h1.ver; have d3 := h1.word; clear h1; go_simp; first | done | with_reducible rfl
        simp only [List.getElem_toArray, List.getElem_cons_succ, List.getElem_cons_zero, Act.put, List.setIfInBounds_toArray, List.set_cons_zero, List.set_cons_succ]
        refine wpAnyH_take (i := 7) (v := ?_) rfl (by kernel_rfl) (by kernel_rfl) (by kernel_rfl) (fun _ _ _ h => h) (Or.inl ⟨by rfl, ?_⟩) (by assumption) ?_
        rotate_left
        · intro W1 h1; have d2 := h1.ver; have d3 := h1.word; clear h1; go_simp; first | done | with_reducible rfl
        simp only [List.getElem_toArray, List.getElem_cons_succ, List.getElem_cons_zero, Act.put, List.setIfInBounds_toArray, List.set_cons_zero, List.set_cons_succ]
        refine wpAnyH_take (i := 8) (v := .agg (No.cells ⟨k, x.1, h1.p.ver, false, false, En.zero, Po.zero⟩).toArray) rfl (by kernel_rfl) (by kernel_rfl) (by kernel_rfl) (fun _ _ _ h => h) (Or.inl ⟨by rfl, fun W1 _ => exec_build _ _ rfl #[(0, I k), (1, I x.1), (2, I h1.p.ver)] (by simp [Act.eval]) _ (build_note W1 _ _ _)⟩) (by assumption) ?_
        try simp only [List.getElem_toArray, List.getElem_cons_succ, List.getElem_cons_zero, Act.put, List.setIfInBounds_toArray, List.set_cons_zero, List.set_cons_succ]
        refine wpAnyH_ready (rs := [9]) (by kernel_rfl) (by simp) ?_
        refine AllReadyH.cons rfl (fun K hK => ?_) AllReadyH.nil
        have hz := fun w => zero86 w
        go_simp
        have hXa := heap_alloc_new X (.cells No.zero.cells.toArray 86)
        have hRd : Rd w hb mb cb xb X.heap.size h1 x u3 (h1.says k) No.zero (X.alloc (.cells No.zero.cells.toArray 86)) :=
          ⟨heap_old_at (heap_lt HF.out.1) HF.out.1, HF.out.2.1.below ((Below.refl _ _).alloc (Nat.le_refl _) _), HF.out.2.2.1.trans (Kp.of_below ((Below.refl _ _).alloc (Nat.le_refl _) _)), HF.out.2.2.2.kept (fun k hk => Below.heap_alloc X _ k (HF.out.2.2.2.lt k hk)), ⟨hXa⟩, ⟨hlx.1, hlx.2.1, hlx.2.2, heap_lt HF.out.1, HF.out.2.2.1.size⟩, fun k hk => ⟨HO.out k hk, by have := HF.out.2.2.2.lt k hk; omega⟩⟩
        refine hK.out _ _ hRd.sd (fun _ => ?_)
        clear hK K hS HF hz hXa HO
        generalize X.heap.size = nb at hRd ⊢
        generalize X.alloc (.cells No.zero.cells.toArray 86) = V at hRd ⊢
        refine wpAnyH_ready (rs := [10]) (by kernel_rfl) (by simp) ?_
        refine AllReadyH.cons rfl (fun K hK => ?_) AllReadyH.nil
        rw [if_pos (by rfl)]
        have hNl : (No.mk k x.1 h1.p.ver false false En.zero Po.zero).cells.length = 342 := No.cells_len _ Po.zero_ok
        refine wp_store_mid _ _ _ rfl nb 0 (No.cells ⟨k, x.1, h1.p.ver, false, false, En.zero, Po.zero⟩).toArray rfl rfl (hRd.note.there Po.zero_ok _ _ (by rw [List.size_toArray, hNl]; decide)) (size86s _ Po.zero_ok) (No.one _) ?_
        simp only [List.toList_toArray]
        have hRe : Rd w hb mb cb xb nb h1 x u3 (h1.says k) ⟨k, x.1, h1.p.ver, false, false, En.zero, Po.zero⟩ (V.setCells nb 0 (No.cells ⟨k, x.1, h1.p.ver, false, false, En.zero, Po.zero⟩)) := hRd.put (Kp.cells _ _ _) ⟨row_stored hRd.note.row (by rw [hNl, List.size_toArray, No.cells_len _ Po.zero_ok])⟩
        refine hK.out _ _ hRe.sd (fun _ => ?_)
        clear hK K hRd hNl
        generalize V.setCells nb 0 (No.cells ⟨k, x.1, h1.p.ver, false, false, En.zero, Po.zero⟩) = Z at hRe ⊢
        refine wpAnyH_done (by kernel_rfl) ?_ _
        refine NoPanic.normal ?_
        have c0 := hRe.head.ver
        have c1 : Z.cell? ⟨xb, 1, none⟩ = some (I x.2) := by rw [cell_of_row _ _ _ _ _ _ hRe.word]; rfl
        have hN : Bx (h1.note k x = if h1.p.ver ≤ x.2 then [] else if x.2 = h1.p.ver - 1 ∧ h1.got = true then [⟨k, x.1, h1.p.ver, false, false, h1.last, Po.zero⟩] else [⟨k, x.1, h1.p.ver, true, false, En.zero, h1.p⟩]) := ⟨rfl⟩
        have HRe := Bx.mk hRe
        clear hRe
        by_cases g1 : h1.p.ver ≤ x.2
        · have d2 : decide (h1.p.ver ≤ x.2) = true := decide_eq_true g1
          have G := Bx.mk g1
          clear g1
          go_wp2_with fail
          go_quiet (fail)
          go_wp2_with fail
          go_roundg (gk - 1)
          case measure => have := HH.out.2.2; omega
          case rel =>
            have hR := HRe.out.drewN nq
            have hs : h1.says (k + 1) = h1.says k := by rw [HS.out, hN.out, if_pos G.out, List.append_nil]
            exact ⟨k + 1, by have := HH.out.2.2; omega, by go_num, ⟨by rw [hs]; exact hR.row, fun j hj => (hR.own j hj).1, by rw [hs]; exact HNl.out⟩, hR.head, hR.kp⟩
        · have d2 : decide (h1.p.ver ≤ x.2) = false := decide_eq_false g1
          have c2 := HRe.out.head.c339
          by_cases g2 : x.2 = h1.p.ver - 1 ∧ h1.got = true
          · have d3 : (x.2 == h1.p.ver - 1) = true := by rw [beq_iff_eq]; exact g2.1
            rw [g2.2] at c2
            have hN2 : Bx (h1.note k x = [⟨k, x.1, h1.p.ver, false, false, h1.last, Po.zero⟩]) := ⟨by rw [hN.out, if_neg g1, if_pos g2]⟩
            clear g1 g2 hN
            go_wp2_with fail
            go_quiet (fail)
            have hR9 := HRe.out.drewN nq
            have hc0 := hR9.head.ver
            have hc1 : (Z.drewN nq).cell? ⟨xb, 1, none⟩ = some (I x.2) := by rw [cell_of_row _ _ _ _ _ _ hR9.word]; rfl
            have hc2 : (Z.drewN nq).cell? ⟨hb, 339, none⟩ = some (.bool true) := c2
            clear HRe c0 c1 c2
            generalize Z.drewN nq = Z1 at hR9 hc0 hc1 hc2 ⊢
            clear nq
            have HRe := Bx.mk hR9
            have c0 := hc0
            have c1 := hc1
            have c2 := hc2
            clear hR9 hc0 hc1 hc2
            go_wp2_with fail
            go_quiet (fail)
            have hR9 := HRe.out.drewN nq
            have hc0 := hR9.head.ver
            have hc1 : (Z1.drewN nq).cell? ⟨xb, 1, none⟩ = some (I x.2) := by rw [cell_of_row _ _ _ _ _ _ hR9.word]; rfl
            have hc2 : (Z1.drewN nq).cell? ⟨hb, 339, none⟩ = some (.bool true) := c2
            clear HRe c0 c1 c2
            generalize Z1.drewN nq = Z2 at hR9 hc0 hc1 hc2 ⊢
            clear nq
            have HRe := Bx.mk hR9
            have c0 := hc0
            have c1 := hc1
            have c2 := hc2
            clear hR9 hc0 hc1 hc2
            have HRg := Bx.mk (show Z2.rangeAt hb 332 h1.last.cells from fun j v hv => by rw [HRe.out.head.last j (by have := (List.getElem?_eq_some_iff.1 hv).1; rw [En.cells_len] at this; exact this)]; exact hv)
            have HTh := Bx.mk (HRe.out.note.there Po.zero_ok 5 h1.last.cells.toArray.size (by rw [List.size_toArray, En.cells_len]; decide))
            have HI1 := Bx.mk (size53 h1.last)
            have HI2 := Bx.mk (size53s h1.last)
            have HO1 := Bx.mk (all_oneCell_toArray (En.one h1.last))
            go_wp2_with (first
              | (refine wpList_load_mid rfl 53 _ rfl hb 332 rfl h1.last.cells _ HRg.out Try.underlying53 rfl HI1.out ?_)
              | (refine wpList_store_mid rfl 53 _ _ rfl nb 5 _ rfl rfl HTh.out HI2.out HO1.out ?_
                 simp only [List.toList_toArray]
                 have hR3 : Rd w hb mb cb xb nb h1 x u3 (h1.says k) ⟨k, x.1, h1.p.ver, false, false, h1.last, Po.zero⟩ (Z2.setCells nb 5 h1.last.cells) := HRe.out.put (Kp.cells _ _ _) ⟨by have := setCells_block h1.last.cells 5 _ _ HRe.out.note.row; rw [No.set_e] at this; exact this⟩
                 have HR3 := Bx.mk hR3
                 clear hR3
                 generalize Z2.setCells nb 5 h1.last.cells = T at HR3 ⊢
                 have HNn := Bx.mk HR3.out.note.range
                 have HIn := Bx.mk (size86 (No.mk k x.1 h1.p.ver false false h1.last Po.zero) Po.zero_ok)
                 have HBs := Bx.mk (run_bs_note T (No.mk k x.1 h1.p.ver false false h1.last Po.zero) Po.zero_ok)
                 have hTa : Below T.heap.size T (T.alloc (.cells (No.mk k x.1 h1.p.ver false false h1.last Po.zero).cells.toArray 86)) := (Below.refl _ _).alloc (Nat.le_refl _) _
                 have HTa := Bx.mk (And.intro hTa (And.intro (heap_alloc_new T (.cells (No.mk k x.1 h1.p.ver false false h1.last Po.zero).cells.toArray 86)) (show RowOf (T.alloc (.cells (No.mk k x.1 h1.p.ver false false h1.last Po.zero).cells.toArray 86)) 86 342 u3 (h1.says k).length (notes (h1.says k)) from HR3.out.row.kept (fun j hj => hTa.block j (HR3.out.row.lt j hj)))))
                 clear hTa
                 obtain ⟨i0, hi0, hz0, hz1, hz2⟩ := info_parts info86
                 have HI0 := Bx.mk (And.intro hi0 (And.intro hz0 (And.intro hz1 hz2)))
                 clear hi0 hz0 hz1 hz2)
              | (refine wpList_load_mid rfl 86 _ rfl nb 0 rfl (No.mk k x.1 h1.p.ver false false h1.last Po.zero).cells _ HNn.out Try.underlying86 rfl HIn.out ?_)
              | (refine wpList_buildSlice_run rfl _ _ _ rfl #[(0, .agg (No.mk k x.1 h1.p.ver false false h1.last Po.zero).cells.toArray)] ?_ _ _ HBs.out ?_
                 · simp [Act.eval, Act.put]
                 generalize htb : T.heap.size = tb at HTa ⊢
                 have HTb := Bx.mk htb
                 clear htb
                 generalize T.alloc (.cells (No.mk k x.1 h1.p.ver false false h1.last Po.zero).cells.toArray 86) = T2 at HTa ⊢)
              | (refine wpList_append_row rfl _ _ 72 rfl 86 i0 _ 342 2728 Try.underlying72 HI0.out.1 HI0.out.2.1 HI0.out.2.2.1 HI0.out.2.2.2 ?_ (by decide) u3 (h1.says k).length (notes (h1.says k)) rfl HTa.out.2.2 ⟨tb, 0, none⟩ 1 1 (notes [(No.mk k x.1 h1.p.ver false false h1.last Po.zero)]) rfl ?_ ?_ (notes_one _) ?_ ?_ ?_
                 · show (No.zero.cells.toArray).size = 342
                   rw [List.size_toArray, No.cells_len _ Po.zero_ok]
                 · rw [notes_len _ (fun y hy => by simp at hy; rw [hy]; exact Po.zero_ok)]; rfl
                 · intro j u hu
                   rw [show notes [(No.mk k x.1 h1.p.ver false false h1.last Po.zero)] = (No.mk k x.1 h1.p.ver false false h1.last Po.zero).cells by simp [notes]] at hu
                   rw [Addr.add_lit, Nat.zero_add, cell_of_row _ _ _ _ _ _ HTa.out.2.1, List.getElem?_toArray]
                   exact hu
                 · unfold maxLen; have := says_len h1 k; have := HH.out.2.2; omega
                 · have := says_len h1 k; have := HH.out.2.2; omega
                 intro v' w' h2 h3 h4
                 have HE := Bx.mk (And.intro h2 (And.intro h3 h4))
                 clear h2 h3 h4))
            go_roundg (gk - 1)
            case measure => have := HH.out.2.2; omega
            case rel =>
              have hap := HR3.out.appended hlw.out (by have := HTa.out.1; rw [HTb.out]; exact this) HE.out.2.1 HE.out.2.2
              have hs : h1.says (k + 1) = h1.says k ++ [(No.mk k x.1 h1.p.ver false false h1.last Po.zero)] := by rw [HS.out, hN2.out]
              exact ⟨k + 1, by have := HH.out.2.2; omega, by go_num, ⟨by rw [hs, notes_app, List.length_append]; exact HE.out.1, hap.2.2, fun e => by rw [hs] at e; simp at e⟩, hap.1, hap.2.1⟩
          · have hN2 : Bx (h1.note k x = [⟨k, x.1, h1.p.ver, true, false, En.zero, h1.p⟩]) := ⟨by rw [hN.out, if_neg g1, if_neg g2]⟩
            by_cases g3 : x.2 = h1.p.ver - 1
            · have d3 : (x.2 == h1.p.ver - 1) = true := by rw [beq_iff_eq]; exact g3
              have g4 : h1.got = false := by
                cases hg : h1.got
                · rfl
                · exact absurd ⟨g3, hg⟩ g2
              rw [g4] at c2
              clear g1 g2 g3 g4 hN
              go_wp2_with fail
              go_quiet (fail)
              have hR9 := HRe.out.drewN nq
              have hc0 := hR9.head.ver
              have hc1 : (Z.drewN nq).cell? ⟨xb, 1, none⟩ = some (I x.2) := by rw [cell_of_row _ _ _ _ _ _ hR9.word]; rfl
              have hc2 : (Z.drewN nq).cell? ⟨hb, 339, none⟩ = some (.bool false) := c2
              clear HRe c0 c1 c2
              generalize Z.drewN nq = Z1 at hR9 hc0 hc1 hc2 ⊢
              clear nq
              have HRe := Bx.mk hR9
              have c0 := hc0
              have c1 := hc1
              have c2 := hc2
              clear hR9 hc0 hc1 hc2
              go_wp2_with fail
              go_quiet (fail)
              have hR9 := HRe.out.drewN nq
              have hc0 := hR9.head.ver
              have hc1 : (Z1.drewN nq).cell? ⟨xb, 1, none⟩ = some (I x.2) := by rw [cell_of_row _ _ _ _ _ _ hR9.word]; rfl
              have hc2 : (Z1.drewN nq).cell? ⟨hb, 339, none⟩ = some (.bool false) := c2
              clear HRe c0 c1 c2
              generalize Z1.drewN nq = Z2 at hR9 hc0 hc1 hc2 ⊢
              clear nq
              have HRe := Bx.mk hR9
              have c0 := hc0
              have c1 := hc1
              have c2 := hc2
              clear hR9 hc0 hc1 hc2
              go_wp2_with fail
              have HI33 := Bx.mk (size33 _ HRe.out.head.ok)
              refine wp_region_noPanic ?_
              refine wp_region_held_drew (S := SPl hb h1.p) (by kernel_rfl) ⟨(HRe.out.drewN 1).head.pool⟩ ?_
              intro hS
              have hRa : Rd w hb mb cb xb nb h1 x u3 (h1.says k) ⟨k, x.1, h1.p.ver, false, false, En.zero, Po.zero⟩ Z2.drew := HRe.out.drewN 1
              clear HRe c0 c1 c2
              generalize Z2.drew = ZA at hS hRa ⊢
              refine wpAnyH_take (i := 0) (v := ?_) rfl (by kernel_rfl) (by kernel_rfl) (by kernel_rfl) (fun _ _ _ h => h) (Or.inl ⟨by rfl, ?_⟩) (by assumption) ?_
              rotate_left
              · intro W1 h1; clear h1; go_simp; first | done | with_reducible rfl
              simp only [List.getElem_toArray, List.getElem_cons_succ, List.getElem_cons_zero, Act.put, List.setIfInBounds_toArray, List.set_cons_zero, List.set_cons_succ]
              refine wpAnyH_take (i := 1) (v := ?_) rfl (by kernel_rfl) (by kernel_rfl) (by kernel_rfl) (fun _ _ _ h => h) (Or.inl ⟨by rfl, ?_⟩) (by assumption) ?_
              rotate_left
              · intro W1 h1; clear h1; go_simp; first | done | with_reducible rfl
              simp only [List.getElem_toArray, List.getElem_cons_succ, List.getElem_cons_zero, Act.put, List.setIfInBounds_toArray, List.set_cons_zero, List.set_cons_succ]
              refine wpAnyH_take (i := 2) (v := ?_) rfl (by kernel_rfl) (by kernel_rfl) (by kernel_rfl) (fun _ _ _ h => h) (Or.inl ⟨by rfl, ?_⟩) (by assumption) ?_
              rotate_left
              · intro W1 h1; clear h1; go_simp; first | done | with_reducible rfl
              simp only [List.getElem_toArray, List.getElem_cons_succ, List.getElem_cons_zero, Act.put, List.setIfInBounds_toArray, List.set_cons_zero, List.set_cons_succ]
              refine wpAnyH_take (i := 3) (v := .agg h1.p.cells.toArray) rfl (by kernel_rfl) (by kernel_rfl) (by kernel_rfl) (fun _ _ _ h => h) (yieldsIf_load_mid (by rfl) 33 _ rfl hb 0 rfl h1.p.cells _ (fun W h => h.row) Try.underlying33 rfl HI33.out) (by assumption) ?_
              simp only [List.getElem_toArray, List.getElem_cons_succ, List.getElem_cons_zero, Act.put, List.setIfInBounds_toArray, List.set_cons_zero, List.set_cons_succ]
              refine wpAnyH_take (i := 4) (v := ?_) rfl (by kernel_rfl) (by kernel_rfl) (by kernel_rfl) (fun _ _ _ h => h) (Or.inl ⟨by rfl, ?_⟩) (by assumption) ?_
              rotate_left
              · intro W1 h1; clear h1; go_simp; first | done | with_reducible rfl
              simp only [List.getElem_toArray, List.getElem_cons_succ, List.getElem_cons_zero, Act.put, List.setIfInBounds_toArray, List.set_cons_zero, List.set_cons_succ]
              refine wpAnyH_ready (rs := [5]) (by kernel_rfl) (by simp) ?_
              refine AllReadyH.cons rfl (fun K hK => ?_) AllReadyH.nil
              have c3 := hRa.note.cell 3 _ rfl
              have f3 := frozen_of_row _ _ 3 _ _ hRa.note.row
              clear hS
              go_simp
              have hRb : Rd w hb mb cb xb nb h1 x u3 (h1.says k) ⟨k, x.1, h1.p.ver, true, false, En.zero, Po.zero⟩ (ZA.setCell ⟨nb, 3, none⟩ (.bool true)) := hRa.put (Kp.setCell (F := fun k => k = nb) (p := ⟨nb, 3, none⟩) rfl _) ⟨by have := setCell_block hRa.note.row 3 (.bool true); rw [No.set_whole] at this; exact this⟩
              refine hK.out _ _ ⟨hRb.head.pool⟩ (fun hS => ?_)
              clear hK K hRa c3 f3
              generalize ZA.setCell ⟨nb, 3, none⟩ (.bool true) = ZB at hS hRb ⊢
              refine wpAnyH_take (i := 6) (v := ?_) rfl (by kernel_rfl) (by kernel_rfl) (by kernel_rfl) (fun _ _ _ h => h) (Or.inl ⟨by rfl, ?_⟩) (by assumption) ?_
              rotate_left
              · intro W1 h1; clear h1; go_simp; first | done | with_reducible rfl
              simp only [List.getElem_toArray, List.getElem_cons_succ, List.getElem_cons_zero, Act.put, List.setIfInBounds_toArray, List.set_cons_zero, List.set_cons_succ]
              refine wpAnyH_ready (rs := [7]) (by kernel_rfl) (by simp) ?_
              refine AllReadyH.cons rfl (fun K hK => ?_) AllReadyH.nil
              clear hS
              rw [if_pos (by rfl)]
              refine wp_store_mid _ _ _ rfl nb 12 h1.p.cells.toArray rfl rfl (hRb.note.there Po.zero_ok _ _ (by rw [List.size_toArray, Po.cells_len _ hRb.head.ok]; decide)) (size33s _ hRb.head.ok) (Po.one _) ?_
              simp only [List.toList_toArray]
              have hRc : Rd w hb mb cb xb nb h1 x u3 (h1.says k) ⟨k, x.1, h1.p.ver, true, false, En.zero, h1.p⟩ (ZB.setCells nb 12 h1.p.cells) := hRb.put (Kp.cells _ _ _) ⟨by have := setCells_block h1.p.cells 12 _ _ hRb.note.row; rw [No.set_p _ _ Po.zero_ok hRb.head.ok] at this; exact this⟩
              refine hK.out _ _ ⟨hRc.head.pool⟩ (fun _ => ?_)
              clear hK K hRb
              generalize ZB.setCells nb 12 h1.p.cells = T at hRc ⊢
              refine wpAnyH_done (by kernel_rfl) ?_ _
              refine NoPanic.normal ?_
              have HR3 := Bx.mk hRc
              have hpk := Bx.mk hRc.head.ok
              clear hRc
              (skip
               have HNn := Bx.mk HR3.out.note.range
               have HIn := Bx.mk (size86 (No.mk k x.1 h1.p.ver true false En.zero h1.p) hpk.out)
               have HBs := Bx.mk (run_bs_note T (No.mk k x.1 h1.p.ver true false En.zero h1.p) hpk.out)
               have hTa : Below T.heap.size T (T.alloc (.cells (No.mk k x.1 h1.p.ver true false En.zero h1.p).cells.toArray 86)) := (Below.refl _ _).alloc (Nat.le_refl _) _
               have HTa := Bx.mk (And.intro hTa (And.intro (heap_alloc_new T (.cells (No.mk k x.1 h1.p.ver true false En.zero h1.p).cells.toArray 86)) (show RowOf (T.alloc (.cells (No.mk k x.1 h1.p.ver true false En.zero h1.p).cells.toArray 86)) 86 342 u3 (h1.says k).length (notes (h1.says k)) from HR3.out.row.kept (fun j hj => hTa.block j (HR3.out.row.lt j hj)))))
               clear hTa
               obtain ⟨i0, hi0, hz0, hz1, hz2⟩ := info_parts info86
               have HI0 := Bx.mk (And.intro hi0 (And.intro hz0 (And.intro hz1 hz2)))
               clear hi0 hz0 hz1 hz2)
              go_wp2_with (first
                | (refine wpList_load_mid rfl 86 _ rfl nb 0 rfl (No.mk k x.1 h1.p.ver true false En.zero h1.p).cells _ HNn.out Try.underlying86 rfl HIn.out ?_)
                | (refine wpList_buildSlice_run rfl _ _ _ rfl #[(0, .agg (No.mk k x.1 h1.p.ver true false En.zero h1.p).cells.toArray)] ?_ _ _ HBs.out ?_
                   · simp [Act.eval, Act.put]
                   generalize htb : T.heap.size = tb at HTa ⊢
                   have HTb := Bx.mk htb
                   clear htb
                   generalize T.alloc (.cells (No.mk k x.1 h1.p.ver true false En.zero h1.p).cells.toArray 86) = T2 at HTa ⊢)
                | (refine wpList_append_row rfl _ _ 72 rfl 86 i0 _ 342 2728 Try.underlying72 HI0.out.1 HI0.out.2.1 HI0.out.2.2.1 HI0.out.2.2.2 ?_ (by decide) u3 (h1.says k).length (notes (h1.says k)) rfl HTa.out.2.2 ⟨tb, 0, none⟩ 1 1 (notes [(No.mk k x.1 h1.p.ver true false En.zero h1.p)]) rfl ?_ ?_ (notes_one _) ?_ ?_ ?_
                   · show (No.zero.cells.toArray).size = 342
                     rw [List.size_toArray, No.cells_len _ Po.zero_ok]
                   · rw [notes_len _ (fun y hy => by simp at hy; rw [hy]; exact hpk.out)]; rfl
                   · intro j u hu
                     rw [show notes [(No.mk k x.1 h1.p.ver true false En.zero h1.p)] = (No.mk k x.1 h1.p.ver true false En.zero h1.p).cells by simp [notes]] at hu
                     rw [Addr.add_lit, Nat.zero_add, cell_of_row _ _ _ _ _ _ HTa.out.2.1, List.getElem?_toArray]
                     exact hu
                   · unfold maxLen; have := says_len h1 k; have := HH.out.2.2; omega
                   · have := says_len h1 k; have := HH.out.2.2; omega
                   intro v' w' h2 h3 h4
                   have HE := Bx.mk (And.intro h2 (And.intro h3 h4))
                   clear h2 h3 h4))
              go_roundg (gk - 1)
              case measure => have := HH.out.2.2; omega
              case rel =>
                have hap := HR3.out.appended hlw.out (by have := HTa.out.1; rw [HTb.out]; exact this) HE.out.2.1 HE.out.2.2
                have hs : h1.says (k + 1) = h1.says k ++ [(No.mk k x.1 h1.p.ver true false En.zero h1.p)] := by rw [HS.out, hN2.out]
                exact ⟨k + 1, by have := HH.out.2.2; omega, by go_num, ⟨by rw [hs, notes_app, List.length_append]; exact HE.out.1, hap.2.2, fun e => by rw [hs] at e; simp at e⟩, hap.1, hap.2.1⟩
            · have d3 : (x.2 == h1.p.ver - 1) = false := by rw [beq_eq_false_iff_ne]; exact g3
              clear g1 g2 g3 hN
              go_wp2_with fail
              go_quiet (fail)
              have hR9 := HRe.out.drewN nq
              have hc0 := hR9.head.ver
              have hc1 : (Z.drewN nq).cell? ⟨xb, 1, none⟩ = some (I x.2) := by rw [cell_of_row _ _ _ _ _ _ hR9.word]; rfl
              have hc2 : (Z.drewN nq).cell? ⟨hb, 339, none⟩ = some (.bool h1.got) := c2
              clear HRe c0 c1 c2
              generalize Z.drewN nq = Z1 at hR9 hc0 hc1 hc2 ⊢
              clear nq
              have HRe := Bx.mk hR9
              have c0 := hc0
              have c1 := hc1
              have c2 := hc2
              clear hR9 hc0 hc1 hc2
              go_wp2_with fail
              go_quiet (fail)
              have hR9 := HRe.out.drewN nq
              have hc0 := hR9.head.ver
              have hc1 : (Z1.drewN nq).cell? ⟨xb, 1, none⟩ = some (I x.2) := by rw [cell_of_row _ _ _ _ _ _ hR9.word]; rfl
              have hc2 : (Z1.drewN nq).cell? ⟨hb, 339, none⟩ = some (.bool h1.got) := c2
              clear HRe c0 c1 c2
              generalize Z1.drewN nq = Z2 at hR9 hc0 hc1 hc2 ⊢
              clear nq
              have HRe := Bx.mk hR9
              have c0 := hc0
              have c1 := hc1
              have c2 := hc2
              clear hR9 hc0 hc1 hc2
              go_wp2_with fail
              have HI33 := Bx.mk (size33 _ HRe.out.head.ok)
              refine wp_region_noPanic ?_
              refine wp_region_held_drew (S := SPl hb h1.p) (by kernel_rfl) ⟨(HRe.out.drewN 1).head.pool⟩ ?_
              intro hS
              have hRa : Rd w hb mb cb xb nb h1 x u3 (h1.says k) ⟨k, x.1, h1.p.ver, false, false, En.zero, Po.zero⟩ Z2.drew := HRe.out.drewN 1
              clear HRe c0 c1 c2
              generalize Z2.drew = ZA at hS hRa ⊢
              refine wpAnyH_take (i := 0) (v := ?_) rfl (by kernel_rfl) (by kernel_rfl) (by kernel_rfl) (fun _ _ _ h => h) (Or.inl ⟨by rfl, ?_⟩) (by assumption) ?_
              rotate_left
              · intro W1 h1; clear h1; go_simp; first | done | with_reducible rfl
              simp only [List.getElem_toArray, List.getElem_cons_succ, List.getElem_cons_zero, Act.put, List.setIfInBounds_toArray, List.set_cons_zero, List.set_cons_succ]
              refine wpAnyH_take (i := 1) (v := ?_) rfl (by kernel_rfl) (by kernel_rfl) (by kernel_rfl) (fun _ _ _ h => h) (Or.inl ⟨by rfl, ?_⟩) (by assumption) ?_
              rotate_left
              · intro W1 h1; clear h1; go_simp; first | done | with_reducible rfl
              simp only [List.getElem_toArray, List.getElem_cons_succ, List.getElem_cons_zero, Act.put, List.setIfInBounds_toArray, List.set_cons_zero, List.set_cons_succ]
              refine wpAnyH_take (i := 2) (v := ?_) rfl (by kernel_rfl) (by kernel_rfl) (by kernel_rfl) (fun _ _ _ h => h) (Or.inl ⟨by rfl, ?_⟩) (by assumption) ?_
              rotate_left
              · intro W1 h1; clear h1; go_simp; first | done | with_reducible rfl
              simp only [List.getElem_toArray, List.getElem_cons_succ, List.getElem_cons_zero, Act.put, List.setIfInBounds_toArray, List.set_cons_zero, List.set_cons_succ]
              refine wpAnyH_take (i := 3) (v := .agg h1.p.cells.toArray) rfl (by kernel_rfl) (by kernel_rfl) (by kernel_rfl) (fun _ _ _ h => h) (yieldsIf_load_mid (by rfl) 33 _ rfl hb 0 rfl h1.p.cells _ (fun W h => h.row) Try.underlying33 rfl HI33.out) (by assumption) ?_
              simp only [List.getElem_toArray, List.getElem_cons_succ, List.getElem_cons_zero, Act.put, List.setIfInBounds_toArray, List.set_cons_zero, List.set_cons_succ]
              refine wpAnyH_take (i := 4) (v := ?_) rfl (by kernel_rfl) (by kernel_rfl) (by kernel_rfl) (fun _ _ _ h => h) (Or.inl ⟨by rfl, ?_⟩) (by assumption) ?_
              rotate_left
              · intro W1 h1; clear h1; go_simp; first | done | with_reducible rfl
              simp only [List.getElem_toArray, List.getElem_cons_succ, List.getElem_cons_zero, Act.put, List.setIfInBounds_toArray, List.set_cons_zero, List.set_cons_succ]
              refine wpAnyH_ready (rs := [5]) (by kernel_rfl) (by simp) ?_
              refine AllReadyH.cons rfl (fun K hK => ?_) AllReadyH.nil
              have c3 := hRa.note.cell 3 _ rfl
              have f3 := frozen_of_row _ _ 3 _ _ hRa.note.row
              clear hS
              go_simp
              have hRb : Rd w hb mb cb xb nb h1 x u3 (h1.says k) ⟨k, x.1, h1.p.ver, true, false, En.zero, Po.zero⟩ (ZA.setCell ⟨nb, 3, none⟩ (.bool true)) := hRa.put (Kp.setCell (F := fun k => k = nb) (p := ⟨nb, 3, none⟩) rfl _) ⟨by have := setCell_block hRa.note.row 3 (.bool true); rw [No.set_whole] at this; exact this⟩
              refine hK.out _ _ ⟨hRb.head.pool⟩ (fun hS => ?_)
              clear hK K hRa c3 f3
              generalize ZA.setCell ⟨nb, 3, none⟩ (.bool true) = ZB at hS hRb ⊢
              refine wpAnyH_take (i := 6) (v := ?_) rfl (by kernel_rfl) (by kernel_rfl) (by kernel_rfl) (fun _ _ _ h => h) (Or.inl ⟨by rfl, ?_⟩) (by assumption) ?_
              rotate_left
              · intro W1 h1; clear h1; go_simp; first | done | with_reducible rfl
              simp only [List.getElem_toArray, List.getElem_cons_succ, List.getElem_cons_zero, Act.put, List.setIfInBounds_toArray, List.set_cons_zero, List.set_cons_succ]
              refine wpAnyH_ready (rs := [7]) (by kernel_rfl) (by simp) ?_
              refine AllReadyH.cons rfl (fun K hK => ?_) AllReadyH.nil
              clear hS
              rw [if_pos (by rfl)]
              refine wp_store_mid _ _ _ rfl nb 12 h1.p.cells.toArray rfl rfl (hRb.note.there Po.zero_ok _ _ (by rw [List.size_toArray, Po.cells_len _ hRb.head.ok]; decide)) (size33s _ hRb.head.ok) (Po.one _) ?_
              simp only [List.toList_toArray]
              have hRc : Rd w hb mb cb xb nb h1 x u3 (h1.says k) ⟨k, x.1, h1.p.ver, true, false, En.zero, h1.p⟩ (ZB.setCells nb 12 h1.p.cells) := hRb.put (Kp.cells _ _ _) ⟨by have := setCells_block h1.p.cells 12 _ _ hRb.note.row; rw [No.set_p _ _ Po.zero_ok hRb.head.ok] at this; exact this⟩
              refine hK.out _ _ ⟨hRc.head.pool⟩ (fun _ => ?_)
              clear hK K hRb
              generalize ZB.setCells nb 12 h1.p.cells = T at hRc ⊢
              refine wpAnyH_done (by kernel_rfl) ?_ _
              refine NoPanic.normal ?_
              have HR3 := Bx.mk hRc
              have hpk := Bx.mk hRc.head.ok
              clear hRc
              (skip
               have HNn := Bx.mk HR3.out.note.range
               have HIn := Bx.mk (size86 (No.mk k x.1 h1.p.ver true false En.zero h1.p) hpk.out)
               have HBs := Bx.mk (run_bs_note T (No.mk k x.1 h1.p.ver true false En.zero h1.p) hpk.out)
               have hTa : Below T.heap.size T (T.alloc (.cells (No.mk k x.1 h1.p.ver true false En.zero h1.p).cells.toArray 86)) := (Below.refl _ _).alloc (Nat.le_refl _) _
               have HTa := Bx.mk (And.intro hTa (And.intro (heap_alloc_new T (.cells (No.mk k x.1 h1.p.ver true false En.zero h1.p).cells.toArray 86)) (show RowOf (T.alloc (.cells (No.mk k x.1 h1.p.ver true false En.zero h1.p).cells.toArray 86)) 86 342 u3 (h1.says k).length (notes (h1.says k)) from HR3.out.row.kept (fun j hj => hTa.block j (HR3.out.row.lt j hj)))))
               clear hTa
               obtain ⟨i0, hi0, hz0, hz1, hz2⟩ := info_parts info86
               have HI0 := Bx.mk (And.intro hi0 (And.intro hz0 (And.intro hz1 hz2)))
               clear hi0 hz0 hz1 hz2)
              go_wp2_with (first
                | (refine wpList_load_mid rfl 86 _ rfl nb 0 rfl (No.mk k x.1 h1.p.ver true false En.zero h1.p).cells _ HNn.out Try.underlying86 rfl HIn.out ?_)
                | (refine wpList_buildSlice_run rfl _ _ _ rfl #[(0, .agg (No.mk k x.1 h1.p.ver true false En.zero h1.p).cells.toArray)] ?_ _ _ HBs.out ?_
                   · simp [Act.eval, Act.put]
                   generalize htb : T.heap.size = tb at HTa ⊢
                   have HTb := Bx.mk htb
                   clear htb
                   generalize T.alloc (.cells (No.mk k x.1 h1.p.ver true false En.zero h1.p).cells.toArray 86) = T2 at HTa ⊢)
                | (refine wpList_append_row rfl _ _ 72 rfl 86 i0 _ 342 2728 Try.underlying72 HI0.out.1 HI0.out.2.1 HI0.out.2.2.1 HI0.out.2.2.2 ?_ (by decide) u3 (h1.says k).length (notes (h1.says k)) rfl HTa.out.2.2 ⟨tb, 0, none⟩ 1 1 (notes [(No.mk k x.1 h1.p.ver true false En.zero h1.p)]) rfl ?_ ?_ (notes_one _) ?_ ?_ ?_
                   · show (No.zero.cells.toArray).size = 342
                     rw [List.size_toArray, No.cells_len _ Po.zero_ok]
                   · rw [notes_len _ (fun y hy => by simp at hy; rw [hy]; exact hpk.out)]; rfl
                   · intro j u hu
                     rw [show notes [(No.mk k x.1 h1.p.ver true false En.zero h1.p)] = (No.mk k x.1 h1.p.ver true false En.zero h1.p).cells by simp [notes]] at hu
                     rw [Addr.add_lit, Nat.zero_add, cell_of_row _ _ _ _ _ _ HTa.out.2.1, List.getElem?_toArray]
                     exact hu
                   · unfold maxLen; have := says_len h1 k; have := HH.out.2.2; omega
                   · have := says_len h1 k; have := HH.out.2.2; omega
                   intro v' w' h2 h3 h4
                   have HE := Bx.mk (And.intro h2 (And.intro h3 h4))
                   clear h2 h3 h4))
              go_roundg (gk - 1)
              case measure => have := HH.out.2.2; omega
              case rel =>
                have hap := HR3.out.appended hlw.out (by have := HTa.out.1; rw [HTb.out]; exact this) HE.out.2.1 HE.out.2.2
                have hs : h1.says (k + 1) = h1.says k ++ [(No.mk k x.1 h1.p.ver true false En.zero h1.p)] := by rw [HS.out, hN2.out]
                exact ⟨k + 1, by have := HH.out.2.2; omega, by go_num, ⟨by rw [hs, notes_app, List.length_append]; exact HE.out.1, hap.2.2, fun e => by rw [hs] at e; simp at e⟩, hap.1, hap.2.1⟩
      · have hkl : k = h1.hs.length := by omega
        have d1 : decide (k < h1.hs.length) = false := decide_eq_false hlt
        have HK := Bx.mk hkl
        clear hkl hlt
        go_wp2_with fail
        go_ret
        exact ⟨u3, rfl, H2, by rw [← HK.out]; exact HR.out.1, hk2, HR.out.2.1, by rw [← HK.out]; exact HR.out.2.2⟩
end Go.Proofs.Ytimdaceidhdaeaa
