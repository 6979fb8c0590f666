/- Proved: lemmas that the law's proof stands on (YardY). Conditions: as each states. -/
import Derived.Test.YtimdaceidhdaeaaLawTwice11

namespace Go.Proofs.Ytimdaceidhdaeaa
open Go.RowKit Go.Proofs
theorem exec_load_mid {P : Program} {o : Oper} {a : Act} {w : World} (ty : TypeId) (x : Operand) (ho : o.op = .load ty x) (b off : Nat) (hx : a.eval x = .pointer (some ⟨b, off, none⟩)) (cs : List Value) (d : TypeDesc) (hc : w.rangeAt b off cs)
    (hu : P.underlying ty = some d) (hd : d.isRow = true) (hi : (P.info? ty).map (·.size) = some cs.length) : (execOp a.eval o).run P w = .ok (.value (.agg cs.toArray)) w := by
  unfold execOp
  simp only [ho, hx, Instr.loadAt, Instr.sureAddr, Sem.run_bind, Sem.run_pure, Result.andThen_ok, run_loadVar_mid w b off ty cs d hc hu hd hi]
/-- Deliver, on its way: the note's block is none of the yard's. -/
structure DvE (w : World) (y y1 : YS) (nb : Nat) (n : No) (s : Ya) (W : World) : Prop where
  at1 : YAt W y1
  kp : Kp y.mem w W
  mem : ∀ k, y1.mem k → y.mem k ∨ w.heap.size ≤ k
  same : y1.yb = y.yb ∧ y1.hb = y.hb
  abs : y1.abs = s
  note : NoteAt W nb n
  nn : ¬ y1.mem nb
theorem DvE.drew {w W : World} {y y1 : YS} {nb : Nat} {n : No} {s : Ya} (h : DvE w y y1 nb n s W) : DvE w y y1 nb n s W.drew :=
  ⟨h.at1.kept (fun _ _ => rfl), ⟨h.kp.os, h.kp.tape, h.kp.output, h.kp.size, h.kp.block⟩, h.mem, h.same, h.abs, ⟨h.note.row⟩, h.nn⟩
structure SDv (yb hb nb : Nat) (n : No) (W : World) : Prop where
  ptr : W.cell? ⟨yb, 0, none⟩ = some (.pointer (some ⟨hb, 0, none⟩))
  note : NoteAt W nb n
theorem DvE.sd {w W : World} {y y1 : YS} {nb : Nat} {n : No} {s : Ya} (h : DvE w y y1 nb n s W) : SDv y.yb y.hb nb n W :=
  ⟨by have := h.at1.c0; rw [h.same.1, h.same.2] at this; exact this, h.note⟩
theorem heard_step {y1 : YS} {W W' : World} (H : YAt W y1) (n : No) (hk : Kp (fun k => k = y1.mb) W W') (hh : HeadAt W' y1.hb y1.mb y1.cb (y1.h.heard n)) : Step W W' y1 { y1.abs with h := y1.abs.h.heard n } :=
  ⟨_, H.turnHead _ (hk.mono (fun k _ e => .inr (.inl e))) hh, ⟨rfl, rfl⟩, rfl, fun k hm => .inl hm, hk.mono (fun k _ e => .inr (.inr (.inl e)))⟩
structure SRp (ab : Nat) (R : No) (W : World) : Prop where
  note : NoteAt W ab R
theorem wp_exec {P : Program} {o : Oper} {a : Act} {w w' : World} {K : Act → World → Prop} {Q : Exit → Act → World → Prop} {v : Value} (hr : (execOp a.eval o).run P w = .ok (.value v) w') (h : K (a.put o.dst v) w') : o.wp P a w K Q := by
  unfold Oper.wp
  rw [hr]
  exact h
theorem exec_buildSlice {P : Program} {o : Oper} {a : Act} {w : World} (t : TypeId) (k : Nat) (ps : Array (Nat × Operand)) (ho : o.op = .buildSlice t k ps) (vs : Array (Nat × Value)) (hv : (ps.map fun (i, x) => (i, a.eval x)) = vs) (v : Value) (w' : World) (hr : (Instr.buildSlice t k vs).run P w = .ok v w') :
    (execOp a.eval o).run P w = .ok (.value v) w' := by
  unfold execOp
  simp only [ho, hv, Sem.run_bind, hr, Result.andThen_ok, Sem.run_pure]
theorem Kp.over2 {w W W' : World} {m m1 : Nat → Prop} (h : Kp m w W) (hm : ∀ k, m1 k → m k ∨ w.heap.size ≤ k) (h2 : Kp m1 W W') : Kp m w W' := by
  have hs := h.size
  refine ⟨h2.os.trans h.os, h2.tape.trans h.tape, h2.output.trans h.output, Nat.le_trans h.size h2.size, fun k h1 hf => (h2.block k (by omega) (fun h3 => ?_)).trans (h.block k h1 hf)⟩
  rcases hm k h3 with h4 | h4
  · exact hf h4
  · omega
/-- What hear does with a note, for a unit. -/
def HearOk (u : Uu) (n : No) : Prop := ∀ (x : Us) (W : World) (i : Int), UnB W x [n] → x.abs = u → Calls Try.prog 41 #[.pointer (some ⟨x.ub, 0, none⟩), .int .i64 i] W fun r w' => ∃ x', r = .returned (.tuple #[((x.abs.come n).word i).val, .bool true]) ∧ UnB w' x' [] ∧ Us.sm x x' ∧ x'.ub = x.ub ∧ x'.abs = x.abs.come n ∧
      Kp x.mem W w'
theorem hear_whole (u : Uu) (n : No) (hn : n.p.ok) (hw : n.whole = true) : HearOk u n := fun x W i H _ => unit_hear x n i W H hn hw
set_option maxHeartbeats 2000000 in
set_option maxRecDepth 100000 in
theorem yard_Deliver_ack (y : YS) (w : World) (H : YAt w y) (hl : y.way.length ≤ 900000) (i : Nat) (n : No) (hi : y.way[i]? = some n) (keep : Bool) (ha : n.ack = true) :
    Calls Try.prog 14 #[.pointer (some ⟨y.yb, 0, none⟩), .int .i64 i, .bool keep] w fun r w' => r = .returned (.bool true) ∧ Step w w' y (y.abs.deliver i keep) := by
  have hD : Bx (y.abs.deliver i keep = { y.abs with h := y.abs.h.heard n, way := if keep then y.way else y.way.eraseIdx i }) := ⟨by
    unfold Ya.deliver
    have e : y.abs.way.getD i No.zero = n := by show y.way.getD i No.zero = n; simp [List.getD_eq_getElem?_getD, hi]
    simp only [e, ha, if_true]; rfl⟩
  have hil := (List.getElem?_eq_some_iff.1 hi).1
  have HA := Bx.mk (note_at y w H i n hi)
  have HH := Bx.mk (And.intro H (And.intro hil hl))
  have hok := Bx.mk (H.wok n (List.mem_of_getElem? hi))
  have HI := Bx.mk (size86s n hok.out)
  have HI2 := Bx.mk (size86 n hok.out)
  have HO := Bx.mk (No.one n)
  have hz := fun w => zero86 w
  clear hi H hl hil
  unfold No.val at HA
  go_enter Try.func14, Try.ntmps14
  cases keep
  · go_upto_region 6 with (first
      | (go_at_call 37; refine HA.out.mono ?_; rintro r w1 ⟨rfl, hB⟩
         have HT := Bx.mk (there_noted w1 n hok.out)
         have hB2 := below_noted hB n
         have HNo := Bx.mk (noteAt_noted w1 n hok.out)
         have hsz := Bx.mk hB.size
         clear hB)
      | (refine wpList_store_mid rfl 86 _ _ rfl w1.heap.size 0 _ rfl rfl HT.out HI.out HO.out ?_
         simp only [List.toList_toArray]
         generalize (w1.alloc (.cells No.zero.cells.toArray 86)).setCells w1.heap.size 0 n.cells = w2 at hB2 HNo ⊢
         have HD := Bx.mk (drop_step y w2 (HH.out.1.kept (fun k hk => hB2.block k (HH.out.1.lt k hk))) i HH.out.2.1 (by have := HH.out.2.2; omega))
         have HB2 := Bx.mk hB2
         clear hB2)
      | (go_at_call 38; refine HD.out.mono ?_; rintro r w3 ⟨rfl, hst⟩; have HS := Bx.mk hst; clear hst))
    have hE : ∃ y1, DvE w y y1 w1.heap.size n (y.abs.lose i) w3 := by
      obtain ⟨y1, a1, a2, a3, a4, a5⟩ := HS.out
      have hlt := HH.out.1.lt
      have hs := hsz.out
      have hnl := heap_lt HNo.out.row
      have hb := HB2.out.size
      have hny : ¬ y.mem w1.heap.size := fun hm => by have := hlt _ hm; omega
      refine ⟨y1, a1, (Kp.of_below HB2.out).trans a5, fun k hk => ?_, a2, a3, ⟨(a5.block _ hnl hny).trans HNo.out.row⟩, fun hm => ?_⟩
      · rcases a4 k hk with h | h
        · exact .inl h
        · exact .inr (by omega)
      · rcases a4 _ hm with h | h
        · exact hny h
        · omega
    obtain ⟨y1, hE⟩ := hE
    clear HS HD HB2 HNo hsz HT HA
    generalize w1.heap.size = nb at hE ⊢
    have c4 := hE.note.cell 4 _ rfl
    rw [ha] at c4
    have HE := Bx.mk hE
    have HA2 := Bx.mk ha
    clear hE ha
    go_wp2_with fail
    refine wp_region_noPanic ?_
    refine wp_region_held_drew (S := SDv y.yb y.hb nb n) (by kernel_rfl) HE.out.drew.sd ?_
    intro hS
    have HE2 := Bx.mk HE.out.drew
    clear HE c4
    generalize w3.drew = X at hS HE2 ⊢
    refine wpAnyH_take (i := 0) (v := ?_) rfl (by kernel_rfl) (by kernel_rfl) (by kernel_rfl) (fun _ _ _ h => h) (Or.inl ⟨by rfl, ?_⟩) (by assumption) ?_
    rotate_left
    · intro W1 h1; have d1 := h1.ptr; clear h1; go_simp; first | done | with_reducible rfl
    simp only [List.getElem_toArray, List.getElem_cons_succ, List.getElem_cons_zero, Act.put, List.setIfInBounds_toArray, List.set_cons_zero, List.set_cons_succ]
    refine wpAnyH_take (i := 1) (v := ?_) rfl (by kernel_rfl) (by kernel_rfl) (by kernel_rfl) (fun _ _ _ h => h) (Or.inl ⟨by rfl, ?_⟩) (by assumption) ?_
    rotate_left
    · intro W1 h1; have d1 := h1.ptr; clear h1; go_simp; first | done | with_reducible rfl
    simp only [List.getElem_toArray, List.getElem_cons_succ, List.getElem_cons_zero, Act.put, List.setIfInBounds_toArray, List.set_cons_zero, List.set_cons_succ]
    refine wpAnyH_take (i := 2) (v := ?_) rfl (by kernel_rfl) (by kernel_rfl) (by kernel_rfl) (fun _ _ _ h => h) (Or.inl ⟨by rfl, ?_⟩) (by assumption) ?_
    rotate_left
    · intro W1 h1; have d1 := h1.ptr; clear h1; go_simp; first | done | with_reducible rfl
    simp only [List.getElem_toArray, List.getElem_cons_succ, List.getElem_cons_zero, Act.put, List.setIfInBounds_toArray, List.set_cons_zero, List.set_cons_succ]
    refine wpAnyH_take (i := 3) (v := ?_) rfl (by kernel_rfl) (by kernel_rfl) (by kernel_rfl) (fun _ _ _ h => h) (Or.inl ⟨by rfl, ?_⟩) (by assumption) ?_
    rotate_left
    · intro W1 h1; have d1 := h1.ptr; clear h1; go_simp; first | done | with_reducible rfl
    simp only [List.getElem_toArray, List.getElem_cons_succ, List.getElem_cons_zero, Act.put, List.setIfInBounds_toArray, List.set_cons_zero, List.set_cons_succ]
    refine wpAnyH_take (i := 4) (v := .agg n.cells.toArray) rfl (by kernel_rfl) (by kernel_rfl) (by kernel_rfl) (fun _ _ _ h => h) (yieldsIf_load_mid (by rfl) 86 _ rfl nb 0 rfl n.cells _ (fun W h => h.note.range) Try.underlying86 rfl HI2.out) (by assumption) ?_
    simp only [List.getElem_toArray, List.getElem_cons_succ, List.getElem_cons_zero, Act.put, List.setIfInBounds_toArray, List.set_cons_zero, List.set_cons_succ]
    refine wpAnyH_ready (rs := [5]) (by kernel_rfl) (by simp) ?_
    refine AllReadyH.cons rfl (fun K hK => ?_) AllReadyH.nil
    clear hS
    have HQ := Bx.mk (head_Heard y1.hb y1.mb y1.cb y1.h n X HE2.out.at1.head ⟨fun e => by have h1 := HE2.out.at1.r1; have h2 := HE2.out.at1.r2; rw [e] at h1; omega, fun e => by have h1 := HE2.out.at1.r3; have h2 := HE2.out.at1.r2; rw [e] at h1; omega⟩)
    rw [HE2.out.same.2] at HQ
    unfold No.val at HQ
    go_simp
    refine HQ.out.mono ?_
    rintro e W ⟨rfl, hh, hk⟩
    have hst : Step w W y { y1.abs with h := y1.abs.h.heard n } := Step.after HE2.out.kp HE2.out.mem HE2.out.same (heard_step HE2.out.at1 n hk (by rw [HE2.out.same.2]; exact hh))
    have hnt : NoteAt W nb n := ⟨(hk.block _ (heap_lt HE2.out.note.row) (fun e => HE2.out.nn (.inr (.inr (.inl e))))).trans HE2.out.note.row⟩
    have hab : ({ y1.abs with h := y1.abs.h.heard n } : Ya) = y.abs.deliver i false := by rw [hD.out, HE2.out.abs]; rfl
    rw [hab] at hst
    obtain ⟨y2, a1, a2, a3⟩ := hst
    refine hK.out _ _ ⟨by have := a1.c0; rw [a2.1, a2.2] at this; exact this, hnt⟩ (fun _ => ?_)
    clear hK K
    refine wpAnyH_done (by kernel_rfl) ?_ _
    refine NoPanic.normal ?_
    have HF : Bx (Step w W y (y.abs.deliver i false)) := ⟨⟨y2, a1, a2, a3⟩⟩
    clear a1 a2 a3 hab hnt hh hk
    go_wp2_with fail
    go_ret
    exact ⟨rfl, HF.out⟩
  · go_upto_region 6 with (first
      | (go_at_call 37; refine HA.out.mono ?_; rintro r w1 ⟨rfl, hB⟩
         have HT := Bx.mk (there_noted w1 n hok.out)
         have hB2 := below_noted hB n
         have HNo := Bx.mk (noteAt_noted w1 n hok.out)
         have hsz := Bx.mk hB.size
         clear hB)
      | (refine wpList_store_mid rfl 86 _ _ rfl w1.heap.size 0 _ rfl rfl HT.out HI.out HO.out ?_
         simp only [List.toList_toArray]
         generalize (w1.alloc (.cells No.zero.cells.toArray 86)).setCells w1.heap.size 0 n.cells = w3 at hB2 HNo ⊢
         have HB2 := Bx.mk hB2
         clear hB2))
    have hE : DvE w y y w1.heap.size n y.abs w3 := by
      have hlt := HH.out.1.lt
      have hs := hsz.out
      exact ⟨HH.out.1.kept (fun k hk => HB2.out.block k (hlt k hk)), Kp.of_below HB2.out, fun k hk => .inl hk, ⟨rfl, rfl⟩, rfl, HNo.out, fun hm => by have := hlt _ hm; omega⟩
    clear HB2 HNo hsz HT HA
    generalize w1.heap.size = nb at hE ⊢
    have c4 := hE.note.cell 4 _ rfl
    rw [ha] at c4
    have HE := Bx.mk hE
    have HA2 := Bx.mk ha
    clear hE ha
    go_wp2_with fail
    refine wp_region_noPanic ?_
    refine wp_region_held_drew (S := SDv y.yb y.hb nb n) (by kernel_rfl) HE.out.drew.sd ?_
    intro hS
    have HE2 := Bx.mk HE.out.drew
    clear HE c4
    generalize w3.drew = X at hS HE2 ⊢
    refine wpAnyH_take (i := 0) (v := ?_) rfl (by kernel_rfl) (by kernel_rfl) (by kernel_rfl) (fun _ _ _ h => h) (Or.inl ⟨by rfl, ?_⟩) (by assumption) ?_
    rotate_left
    · intro W1 h1; have d1 := h1.ptr; clear h1; go_simp; first | done | with_reducible rfl
    simp only [List.getElem_toArray, List.getElem_cons_succ, List.getElem_cons_zero, Act.put, List.setIfInBounds_toArray, List.set_cons_zero, List.set_cons_succ]
    refine wpAnyH_take (i := 1) (v := ?_) rfl (by kernel_rfl) (by kernel_rfl) (by kernel_rfl) (fun _ _ _ h => h) (Or.inl ⟨by rfl, ?_⟩) (by assumption) ?_
    rotate_left
    · intro W1 h1; have d1 := h1.ptr; clear h1; go_simp; first | done | with_reducible rfl
    simp only [List.getElem_toArray, List.getElem_cons_succ, List.getElem_cons_zero, Act.put, List.setIfInBounds_toArray, List.set_cons_zero, List.set_cons_succ]
    refine wpAnyH_take (i := 2) (v := ?_) rfl (by kernel_rfl) (by kernel_rfl) (by kernel_rfl) (fun _ _ _ h => h) (Or.inl ⟨by rfl, ?_⟩) (by assumption) ?_
    rotate_left
    · intro W1 h1; have d1 := h1.ptr; clear h1; go_simp; first | done | with_reducible rfl
    simp only [List.getElem_toArray, List.getElem_cons_succ, List.getElem_cons_zero, Act.put, List.setIfInBounds_toArray, List.set_cons_zero, List.set_cons_succ]
    refine wpAnyH_take (i := 3) (v := ?_) rfl (by kernel_rfl) (by kernel_rfl) (by kernel_rfl) (fun _ _ _ h => h) (Or.inl ⟨by rfl, ?_⟩) (by assumption) ?_
    rotate_left
    · intro W1 h1; have d1 := h1.ptr; clear h1; go_simp; first | done | with_reducible rfl
    simp only [List.getElem_toArray, List.getElem_cons_succ, List.getElem_cons_zero, Act.put, List.setIfInBounds_toArray, List.set_cons_zero, List.set_cons_succ]
    refine wpAnyH_take (i := 4) (v := .agg n.cells.toArray) rfl (by kernel_rfl) (by kernel_rfl) (by kernel_rfl) (fun _ _ _ h => h) (yieldsIf_load_mid (by rfl) 86 _ rfl nb 0 rfl n.cells _ (fun W h => h.note.range) Try.underlying86 rfl HI2.out) (by assumption) ?_
    simp only [List.getElem_toArray, List.getElem_cons_succ, List.getElem_cons_zero, Act.put, List.setIfInBounds_toArray, List.set_cons_zero, List.set_cons_succ]
    refine wpAnyH_ready (rs := [5]) (by kernel_rfl) (by simp) ?_
    refine AllReadyH.cons rfl (fun K hK => ?_) AllReadyH.nil
    clear hS
    have HQ := Bx.mk (head_Heard y.hb y.mb y.cb y.h n X HE2.out.at1.head ⟨fun e => by have h1 := HE2.out.at1.r1; have h2 := HE2.out.at1.r2; rw [e] at h1; omega, fun e => by have h1 := HE2.out.at1.r3; have h2 := HE2.out.at1.r2; rw [e] at h1; omega⟩)
    rw [HE2.out.same.2] at HQ
    unfold No.val at HQ
    go_simp
    refine HQ.out.mono ?_
    rintro e W ⟨rfl, hh, hk⟩
    have hst : Step w W y { y.abs with h := y.abs.h.heard n } := Step.after HE2.out.kp HE2.out.mem HE2.out.same (heard_step HE2.out.at1 n hk (by rw [HE2.out.same.2]; exact hh))
    have hnt : NoteAt W nb n := ⟨(hk.block _ (heap_lt HE2.out.note.row) (fun e => HE2.out.nn (.inr (.inr (.inl e))))).trans HE2.out.note.row⟩
    have hab : ({ y.abs with h := y.abs.h.heard n } : Ya) = y.abs.deliver i true := by rw [hD.out, HE2.out.abs]; rfl
    rw [hab] at hst
    obtain ⟨y2, a1, a2, a3⟩ := hst
    refine hK.out _ _ ⟨by have := a1.c0; rw [a2.1, a2.2] at this; exact this, hnt⟩ (fun _ => ?_)
    clear hK K
    refine wpAnyH_done (by kernel_rfl) ?_ _
    refine NoPanic.normal ?_
    have HF : Bx (Step w W y (y.abs.deliver i true)) := ⟨⟨y2, a1, a2, a3⟩⟩
    clear a1 a2 a3 hab hnt hh hk
    go_wp2_with fail
    go_ret
    exact ⟨rfl, HF.out⟩
structure SRg (nb : Nat) (n : No) (y1 : YS) (W : World) : Prop where
  at1 : YAt W y1
  note : NoteAt W nb n
set_option maxHeartbeats 2000000 in
set_option maxRecDepth 100000 in
theorem yard_Deliver_unit (y : YS) (w : World) (H : YAt w y) (hl : y.way.length ≤ 900000) (hus : y.us.length < 1000) (i : Nat) (n : No) (hi : y.way[i]? = some n) (keep : Bool) (ha : n.ack = false) (ui : Nat) (hnu : n.u = ui) (hui : ui < y.us.length) (hear : HearOk (y.abs.us.getD ui ⟨0, .none⟩) n) :
    Calls Try.prog 14 #[.pointer (some ⟨y.yb, 0, none⟩), .int .i64 i, .bool keep] w fun r w' => r = .returned (.bool true) ∧ Step w w' y (y.abs.deliver i keep) := by
  have hD : Bx (y.abs.deliver i keep = { y.abs with us := y.abs.us.set ui ((y.abs.us.getD ui ⟨0, .none⟩).come n), way := (if keep then y.way else y.way.eraseIdx i) ++ [((y.abs.us.getD ui ⟨0, .none⟩).come n).word ui] }) := ⟨by
    unfold Ya.deliver
    have e : y.abs.way.getD i No.zero = n := by show y.way.getD i No.zero = n; simp [List.getD_eq_getElem?_getD, hi]
    have e2 : (0 ≤ n.u ∧ n.u < (y.abs.us.length : Int)) := by rw [hnu]; unfold YS.abs; simp; omega
    simp only [e, ha, Bool.false_eq_true, if_false]
    rw [if_pos e2, hnu]; rfl⟩
  have HQ := Bx.mk (And.intro hnu (And.intro hui (And.intro hear hus)))
  clear hnu hui hear hus
  have hil := (List.getElem?_eq_some_iff.1 hi).1
  have HA := Bx.mk (note_at y w H i n hi)
  have HH := Bx.mk (And.intro H (And.intro hil hl))
  have hok := Bx.mk (H.wok n (List.mem_of_getElem? hi))
  have HI := Bx.mk (size86s n hok.out)
  have HI2 := Bx.mk (size86 n hok.out)
  have HO := Bx.mk (No.one n)
  have hz := fun w => zero86 w
  clear hi H hl hil
  unfold No.val at HA
  go_enter Try.func14, Try.ntmps14
  cases keep
  · go_upto_region 6 with (first
      | (go_at_call 37; refine HA.out.mono ?_; rintro r w1 ⟨rfl, hB⟩
         have HT := Bx.mk (there_noted w1 n hok.out)
         have hB2 := below_noted hB n
         have HNo := Bx.mk (noteAt_noted w1 n hok.out)
         have hsz := Bx.mk hB.size
         clear hB)
      | (refine wpList_store_mid rfl 86 _ _ rfl w1.heap.size 0 _ rfl rfl HT.out HI.out HO.out ?_
         simp only [List.toList_toArray]
         generalize (w1.alloc (.cells No.zero.cells.toArray 86)).setCells w1.heap.size 0 n.cells = w2 at hB2 HNo ⊢
         have HD := Bx.mk (drop_step y w2 (HH.out.1.kept (fun k hk => hB2.block k (HH.out.1.lt k hk))) i HH.out.2.1 (by have := HH.out.2.2; omega))
         have HB2 := Bx.mk hB2
         clear hB2)
      | (go_at_call 38; refine HD.out.mono ?_; rintro r w3 ⟨rfl, hst⟩; have HS := Bx.mk hst; clear hst))
    have hE : ∃ y1, DvE w y y1 w1.heap.size n (y.abs.lose i) w3 := by
      obtain ⟨y1, a1, a2, a3, a4, a5⟩ := HS.out
      have hlt := HH.out.1.lt
      have hs := hsz.out
      have hnl := heap_lt HNo.out.row
      have hb := HB2.out.size
      have hny : ¬ y.mem w1.heap.size := fun hm => by have := hlt _ hm; omega
      refine ⟨y1, a1, (Kp.of_below HB2.out).trans a5, fun k hk => ?_, a2, a3, ⟨(a5.block _ hnl hny).trans HNo.out.row⟩, fun hm => ?_⟩
      · rcases a4 k hk with h | h
        · exact .inl h
        · exact .inr (by omega)
      · rcases a4 _ hm with h | h
        · exact hny h
        · omega
    obtain ⟨y1, hE⟩ := hE
    clear HS HD HB2 HNo hsz HT HA
    generalize w1.heap.size = nb at hE ⊢
    have c4 := hE.note.cell 4 _ rfl
    rw [ha] at c4
    have HE := Bx.mk hE
    clear hE ha
    go_wp2_with fail
    refine wp_region_noPanic ?_
    refine wp_region_held_drew (S := SRg nb n y1) (by kernel_rfl) ⟨HE.out.drew.at1, HE.out.drew.note⟩ ?_
    intro hS
    have HE2 := Bx.mk HE.out.drew
    clear HE c4
    generalize w3.drew = X at hS HE2 ⊢
    refine wpAnyH_take (i := 0) (v := ?_) rfl (by kernel_rfl) (by kernel_rfl) (by kernel_rfl) (fun _ _ _ h => h) (Or.inl ⟨by rfl, ?_⟩) (by assumption) ?_
    rotate_left
    · intro W1 h1; have d1 := h1.note.cell 0 _ rfl; clear h1; go_simp; first | done | with_reducible rfl
    simp only [List.getElem_toArray, List.getElem_cons_succ, List.getElem_cons_zero, Act.put, List.setIfInBounds_toArray, List.set_cons_zero, List.set_cons_succ]
    refine wpAnyH_take (i := 1) (v := ?_) rfl (by kernel_rfl) (by kernel_rfl) (by kernel_rfl) (fun _ _ _ h => h) (Or.inl ⟨by rfl, ?_⟩) (by assumption) ?_
    rotate_left
    · intro W1 h1; have d1 := h1.note.cell 0 _ rfl; clear h1; go_simp; first | done | with_reducible rfl
    simp only [List.getElem_toArray, List.getElem_cons_succ, List.getElem_cons_zero, Act.put, List.setIfInBounds_toArray, List.set_cons_zero, List.set_cons_succ]
    refine wpAnyH_take (i := 2) (v := ?_) rfl (by kernel_rfl) (by kernel_rfl) (by kernel_rfl) (fun _ _ _ h => h) (Or.inl ⟨by rfl, ?_⟩) (by assumption) ?_
    rotate_left
    · intro W1 h1; have d1 := h1.note.cell 0 _ rfl; clear h1; go_simp; first | done | with_reducible rfl
    simp only [List.getElem_toArray, List.getElem_cons_succ, List.getElem_cons_zero, Act.put, List.setIfInBounds_toArray, List.set_cons_zero, List.set_cons_succ]
    refine wpAnyH_take (i := 3) (v := ?_) rfl (by kernel_rfl) (by kernel_rfl) (by kernel_rfl) (fun _ _ _ h => h) (Or.inl ⟨by rfl, ?_⟩) (by assumption) ?_
    rotate_left
    · intro W1 h1; have d1 := h1.note.cell 0 _ rfl; clear h1; go_simp; first | done | with_reducible rfl
    simp only [List.getElem_toArray, List.getElem_cons_succ, List.getElem_cons_zero, Act.put, List.setIfInBounds_toArray, List.set_cons_zero, List.set_cons_succ]
    refine wpAnyH_take (i := 4) (v := ?_) rfl (by kernel_rfl) (by kernel_rfl) (by kernel_rfl) (fun _ _ _ h => h) (Or.inl ⟨by rfl, ?_⟩) (by assumption) ?_
    rotate_left
    · intro W1 h1; have d1 := h1.note.cell 0 _ rfl; clear h1; go_simp; first | done | with_reducible rfl
    simp only [List.getElem_toArray, List.getElem_cons_succ, List.getElem_cons_zero, Act.put, List.setIfInBounds_toArray, List.set_cons_zero, List.set_cons_succ]
    have hul : y1.us.length = y.us.length := by
      first
      | rfl
      | (have e := congrArg (fun a => a.us.length) HE2.out.abs
         simp only [YS.abs, Ya.lose, List.length_map] at e
         exact e)
    obtain ⟨x, hx⟩ : ∃ x, y1.us[ui]? = some x := ⟨_, List.getElem?_eq_getElem (by have := HQ.out.2.1; omega)⟩
    have hxa : x.abs = y.abs.us.getD ui ⟨0, .none⟩ := by
      first
      | exact (abs_at hx _).symm
      | (have e := congrArg (fun a => a.us.getD ui ⟨0, .none⟩) HE2.out.abs
         simp only [Ya.lose] at e
         rw [← e, abs_at hx])
    have HX := Bx.mk (And.intro hx (And.intro hxa (And.intro hul (HE2.out.at1.un x (List.mem_iff_getElem?.2 ⟨ui, hx⟩)))))
    clear hx hxa hul
    refine wpAnyH_ready (rs := [5]) (by kernel_rfl) (by simp) ?_
    refine AllReadyH.cons rfl (fun K hK => ?_) AllReadyH.nil
    have HU := Bx.mk (unit_at y1 X HE2.out.at1 (by rw [HX.out.2.2.1]; exact HQ.out.2.2.2) ui x HX.out.1)
    rw [HE2.out.same.1, ← HQ.out.1] at HU
    clear hS
    go_simp
    refine HU.out.mono ?_
    rintro e W ⟨rfl, rfl⟩
    refine hK.out _ _ ⟨HE2.out.at1, HE2.out.note⟩ (fun hS => ?_)
    clear hK K HU
    try simp only [List.getElem_toArray, List.getElem_cons_succ, List.getElem_cons_zero, Act.put, List.setIfInBounds_toArray, List.set_cons_zero, List.set_cons_succ]
    refine wpAnyH_take (i := 6) (v := ?_) rfl (by kernel_rfl) (by kernel_rfl) (by kernel_rfl) (fun _ _ _ h => h) (Or.inl ⟨by rfl, ?_⟩) (by assumption) ?_
    rotate_left
    · intro W1 h1; clear h1; go_simp; first | done | with_reducible rfl
    simp only [List.getElem_toArray, List.getElem_cons_succ, List.getElem_cons_zero, Act.put, List.setIfInBounds_toArray, List.set_cons_zero, List.set_cons_succ]
    refine wpAnyH_take (i := 7) (v := ?_) rfl (by kernel_rfl) (by kernel_rfl) (by kernel_rfl) (fun _ _ _ h => h) (Or.inl ⟨by rfl, ?_⟩) (by assumption) ?_
    rotate_left
    · intro W1 h1; clear h1; go_simp; first | done | with_reducible rfl
    simp only [List.getElem_toArray, List.getElem_cons_succ, List.getElem_cons_zero, Act.put, List.setIfInBounds_toArray, List.set_cons_zero, List.set_cons_succ]
    refine wpAnyH_take (i := 8) (v := ?_) rfl (by kernel_rfl) (by kernel_rfl) (by kernel_rfl) (fun _ _ _ h => h) (Or.inl ⟨by rfl, ?_⟩) (by assumption) ?_
    rotate_left
    · intro W1 h1; clear h1; go_simp; first | done | with_reducible rfl
    simp only [List.getElem_toArray, List.getElem_cons_succ, List.getElem_cons_zero, Act.put, List.setIfInBounds_toArray, List.set_cons_zero, List.set_cons_succ]
    refine wpAnyH_take (i := 9) (v := ?_) rfl (by kernel_rfl) (by kernel_rfl) (by kernel_rfl) (fun _ _ _ h => h) (Or.inl ⟨by rfl, ?_⟩) (by assumption) ?_
    rotate_left
    · intro W1 h1; clear h1; go_simp; first | done | with_reducible rfl
    simp only [List.getElem_toArray, List.getElem_cons_succ, List.getElem_cons_zero, Act.put, List.setIfInBounds_toArray, List.set_cons_zero, List.set_cons_succ]
    refine wpAnyH_take (i := 10) (v := ?_) rfl (by kernel_rfl) (by kernel_rfl) (by kernel_rfl) (fun _ _ _ h => h) (Or.inl ⟨by rfl, ?_⟩) (by assumption) ?_
    rotate_left
    · intro W1 h1; clear h1; go_simp; first | done | with_reducible rfl
    simp only [List.getElem_toArray, List.getElem_cons_succ, List.getElem_cons_zero, Act.put, List.setIfInBounds_toArray, List.set_cons_zero, List.set_cons_succ]
    refine wpAnyH_done (by kernel_rfl) ?_ _
    refine NoPanic.normal ?_
    clear hS
    go_upto_region 11 with (fail)
    go_cut [] (fun wx => UnB wx x [n] ∧ Kp (fun k => k = x.un.ch) W wx)
    case first =>
      obtain ⟨cs, cr, hcc⟩ := HX.out.2.2.2.c
      have HC := Bx.mk hcc
      have c5 := HX.out.2.2.2.cchan
      have HNr := Bx.mk (show W.drew.rangeAt nb 0 n.cells from HE2.out.note.range)
      clear hcc
      refine wp_region_orders (by kernel_rfl) (L := [[0, 1, 2, 3, 4, 5], [0, 1, 2, 4, 3, 5], [0, 1, 4, 2, 3, 5], [0, 4, 1, 2, 3, 5], [4, 0, 1, 2, 3, 5]]) (by kernel_rfl) ?_
      intro l hl
      simp only [List.mem_cons, List.not_mem_nil, or_false] at hl
      have hfin : ∀ {ops : Array Oper} {Q : Exit → Act → World → Prop} {a : Act} {o : Oper}, ops[5]? = some o → o.guard = none → o.dst = none → (execOp a.eval o).run Try.prog W.drew = .ok (.comm #[Conc.scase x.un.ch n.val (.tuple #[])] true .send) W.drew →
          (∀ W', UnB W' x [n] → Kp (fun k => k = x.un.ch) W W' → Q .normal a W') → OpsAt Try.prog ops Q [5] a W.drew := by
        intro ops Q a o h1 h2 h3 h4 h5
        refine OpsAt.send h1 h2 h4 (show W.drew.heap[x.un.ch]? = some (.chan 1 #[] false cs cr false) from HC.out) (by simp) (OpsAt.nil ?_)
        rw [h3]
        refine h5 _ ?_ ?_
        · have hU : UnB W.drew x [] := HX.out.2.2.2.kept (fun _ _ => rfl)
          exact hU.setChan [n] (cs + 1) cr
        · have := Kp.chan W.drew x.un.ch 1 (#[].push n.val) false (cs + 1) cr false
          exact ⟨this.os, this.tape, this.output, this.size, this.block⟩
      rcases hl with rfl | rfl | rfl | rfl | rfl
      · refine OpsAt.quiet (v := ?_) rfl rfl ?_ ?_
        rotate_left
        · go_simp; first | done | with_reducible rfl
        simp only [List.getElem_toArray, List.getElem_cons_succ, List.getElem_cons_zero, Act.put, List.setIfInBounds_toArray, List.set_cons_zero, List.set_cons_succ]
        refine OpsAt.quiet (v := ?_) rfl rfl ?_ ?_
        rotate_left
        · go_simp; first | done | with_reducible rfl
        simp only [List.getElem_toArray, List.getElem_cons_succ, List.getElem_cons_zero, Act.put, List.setIfInBounds_toArray, List.set_cons_zero, List.set_cons_succ]
        refine OpsAt.quiet (v := ?_) rfl rfl ?_ ?_
        rotate_left
        · go_simp; first | done | with_reducible rfl
        simp only [List.getElem_toArray, List.getElem_cons_succ, List.getElem_cons_zero, Act.put, List.setIfInBounds_toArray, List.set_cons_zero, List.set_cons_succ]
        refine OpsAt.quiet (v := ?_) rfl rfl ?_ ?_
        rotate_left
        · go_simp; first | done | with_reducible rfl
        simp only [List.getElem_toArray, List.getElem_cons_succ, List.getElem_cons_zero, Act.put, List.setIfInBounds_toArray, List.set_cons_zero, List.set_cons_succ]
        refine OpsAt.value rfl rfl (exec_load_mid 86 _ rfl nb 0 rfl n.cells _ HNr.out Try.underlying86 rfl HI2.out) ?_
        try simp only [List.getElem_toArray, List.getElem_cons_succ, List.getElem_cons_zero, Act.put, List.setIfInBounds_toArray, List.set_cons_zero, List.set_cons_succ]
        refine hfin rfl rfl rfl (Go.Proofs.Ytimdaceidhdaeaa.exec_send rfl rfl rfl) (fun W' hU hk => ?_)
        clear hfin
        go_wp2_with fail
        go_meet
        exact ⟨hU, hk⟩
      · refine OpsAt.quiet (v := ?_) rfl rfl ?_ ?_
        rotate_left
        · go_simp; first | done | with_reducible rfl
        simp only [List.getElem_toArray, List.getElem_cons_succ, List.getElem_cons_zero, Act.put, List.setIfInBounds_toArray, List.set_cons_zero, List.set_cons_succ]
        refine OpsAt.quiet (v := ?_) rfl rfl ?_ ?_
        rotate_left
        · go_simp; first | done | with_reducible rfl
        simp only [List.getElem_toArray, List.getElem_cons_succ, List.getElem_cons_zero, Act.put, List.setIfInBounds_toArray, List.set_cons_zero, List.set_cons_succ]
        refine OpsAt.quiet (v := ?_) rfl rfl ?_ ?_
        rotate_left
        · go_simp; first | done | with_reducible rfl
        simp only [List.getElem_toArray, List.getElem_cons_succ, List.getElem_cons_zero, Act.put, List.setIfInBounds_toArray, List.set_cons_zero, List.set_cons_succ]
        refine OpsAt.value rfl rfl (exec_load_mid 86 _ rfl nb 0 rfl n.cells _ HNr.out Try.underlying86 rfl HI2.out) ?_
        try simp only [List.getElem_toArray, List.getElem_cons_succ, List.getElem_cons_zero, Act.put, List.setIfInBounds_toArray, List.set_cons_zero, List.set_cons_succ]
        refine OpsAt.quiet (v := ?_) rfl rfl ?_ ?_
        rotate_left
        · go_simp; first | done | with_reducible rfl
        simp only [List.getElem_toArray, List.getElem_cons_succ, List.getElem_cons_zero, Act.put, List.setIfInBounds_toArray, List.set_cons_zero, List.set_cons_succ]
        refine hfin rfl rfl rfl (Go.Proofs.Ytimdaceidhdaeaa.exec_send rfl rfl rfl) (fun W' hU hk => ?_)
        clear hfin
        go_wp2_with fail
        go_meet
        exact ⟨hU, hk⟩
      · refine OpsAt.quiet (v := ?_) rfl rfl ?_ ?_
        rotate_left
        · go_simp; first | done | with_reducible rfl
        simp only [List.getElem_toArray, List.getElem_cons_succ, List.getElem_cons_zero, Act.put, List.setIfInBounds_toArray, List.set_cons_zero, List.set_cons_succ]
        refine OpsAt.quiet (v := ?_) rfl rfl ?_ ?_
        rotate_left
        · go_simp; first | done | with_reducible rfl
        simp only [List.getElem_toArray, List.getElem_cons_succ, List.getElem_cons_zero, Act.put, List.setIfInBounds_toArray, List.set_cons_zero, List.set_cons_succ]
        refine OpsAt.value rfl rfl (exec_load_mid 86 _ rfl nb 0 rfl n.cells _ HNr.out Try.underlying86 rfl HI2.out) ?_
        try simp only [List.getElem_toArray, List.getElem_cons_succ, List.getElem_cons_zero, Act.put, List.setIfInBounds_toArray, List.set_cons_zero, List.set_cons_succ]
        refine OpsAt.quiet (v := ?_) rfl rfl ?_ ?_
        rotate_left
        · go_simp; first | done | with_reducible rfl
        simp only [List.getElem_toArray, List.getElem_cons_succ, List.getElem_cons_zero, Act.put, List.setIfInBounds_toArray, List.set_cons_zero, List.set_cons_succ]
        refine OpsAt.quiet (v := ?_) rfl rfl ?_ ?_
        rotate_left
        · go_simp; first | done | with_reducible rfl
        simp only [List.getElem_toArray, List.getElem_cons_succ, List.getElem_cons_zero, Act.put, List.setIfInBounds_toArray, List.set_cons_zero, List.set_cons_succ]
        refine hfin rfl rfl rfl (Go.Proofs.Ytimdaceidhdaeaa.exec_send rfl rfl rfl) (fun W' hU hk => ?_)
        clear hfin
        go_wp2_with fail
        go_meet
        exact ⟨hU, hk⟩
      · refine OpsAt.quiet (v := ?_) rfl rfl ?_ ?_
        rotate_left
        · go_simp; first | done | with_reducible rfl
        simp only [List.getElem_toArray, List.getElem_cons_succ, List.getElem_cons_zero, Act.put, List.setIfInBounds_toArray, List.set_cons_zero, List.set_cons_succ]
        refine OpsAt.value rfl rfl (exec_load_mid 86 _ rfl nb 0 rfl n.cells _ HNr.out Try.underlying86 rfl HI2.out) ?_
        try simp only [List.getElem_toArray, List.getElem_cons_succ, List.getElem_cons_zero, Act.put, List.setIfInBounds_toArray, List.set_cons_zero, List.set_cons_succ]
        refine OpsAt.quiet (v := ?_) rfl rfl ?_ ?_
        rotate_left
        · go_simp; first | done | with_reducible rfl
        simp only [List.getElem_toArray, List.getElem_cons_succ, List.getElem_cons_zero, Act.put, List.setIfInBounds_toArray, List.set_cons_zero, List.set_cons_succ]
        refine OpsAt.quiet (v := ?_) rfl rfl ?_ ?_
        rotate_left
        · go_simp; first | done | with_reducible rfl
        simp only [List.getElem_toArray, List.getElem_cons_succ, List.getElem_cons_zero, Act.put, List.setIfInBounds_toArray, List.set_cons_zero, List.set_cons_succ]
        refine OpsAt.quiet (v := ?_) rfl rfl ?_ ?_
        rotate_left
        · go_simp; first | done | with_reducible rfl
        simp only [List.getElem_toArray, List.getElem_cons_succ, List.getElem_cons_zero, Act.put, List.setIfInBounds_toArray, List.set_cons_zero, List.set_cons_succ]
        refine hfin rfl rfl rfl (Go.Proofs.Ytimdaceidhdaeaa.exec_send rfl rfl rfl) (fun W' hU hk => ?_)
        clear hfin
        go_wp2_with fail
        go_meet
        exact ⟨hU, hk⟩
      · refine OpsAt.value rfl rfl (exec_load_mid 86 _ rfl nb 0 rfl n.cells _ HNr.out Try.underlying86 rfl HI2.out) ?_
        try simp only [List.getElem_toArray, List.getElem_cons_succ, List.getElem_cons_zero, Act.put, List.setIfInBounds_toArray, List.set_cons_zero, List.set_cons_succ]
        refine OpsAt.quiet (v := ?_) rfl rfl ?_ ?_
        rotate_left
        · go_simp; first | done | with_reducible rfl
        simp only [List.getElem_toArray, List.getElem_cons_succ, List.getElem_cons_zero, Act.put, List.setIfInBounds_toArray, List.set_cons_zero, List.set_cons_succ]
        refine OpsAt.quiet (v := ?_) rfl rfl ?_ ?_
        rotate_left
        · go_simp; first | done | with_reducible rfl
        simp only [List.getElem_toArray, List.getElem_cons_succ, List.getElem_cons_zero, Act.put, List.setIfInBounds_toArray, List.set_cons_zero, List.set_cons_succ]
        refine OpsAt.quiet (v := ?_) rfl rfl ?_ ?_
        rotate_left
        · go_simp; first | done | with_reducible rfl
        simp only [List.getElem_toArray, List.getElem_cons_succ, List.getElem_cons_zero, Act.put, List.setIfInBounds_toArray, List.set_cons_zero, List.set_cons_succ]
        refine OpsAt.quiet (v := ?_) rfl rfl ?_ ?_
        rotate_left
        · go_simp; first | done | with_reducible rfl
        simp only [List.getElem_toArray, List.getElem_cons_succ, List.getElem_cons_zero, Act.put, List.setIfInBounds_toArray, List.set_cons_zero, List.set_cons_succ]
        refine hfin rfl rfl rfl (Go.Proofs.Ytimdaceidhdaeaa.exec_send rfl rfl rfl) (fun W' hU hk => ?_)
        clear hfin
        go_wp2_with fail
        go_meet
        exact ⟨hU, hk⟩
    case rest =>
      obtain ⟨hU, hkc⟩ := hcut
      have hxm : ∀ k, x.mem k → y1.mem k := fun k hk => .inr (.inr (.inr (.inr (.inr (.inr ⟨x, List.mem_iff_getElem?.2 ⟨ui, HX.out.1⟩, hk⟩)))))
      have hN : NoteAt wc nb n := ⟨(hkc.block _ (heap_lt HE2.out.note.row) (fun e => HE2.out.nn (hxm _ (.inr (.inr e))))).trans HE2.out.note.row⟩
      have c0 := hN.cell 0 _ rfl
      have HKX : Bx (Kp x.mem W wc) := ⟨hkc.mono (fun k _ e => .inr (.inr e))⟩
      have HHe := Bx.mk (HQ.out.2.2.1 x wc n.u hU HX.out.2.1)
      have hRo : (Uu.word (x.abs.come n) n.u).p.ok := Po.zero_ok
      have hRe : Bx (Uu.word (x.abs.come n) n.u = ((y.abs.us.getD ui ⟨0, .none⟩).come n).word ui) := ⟨by rw [← HX.out.2.1, HQ.out.1]⟩
      generalize Uu.word (x.abs.come n) n.u = R at HHe hRo hRe
      have HIR := Bx.mk (size86s R hRo)
      have HIR2 := Bx.mk (size86 R hRo)
      have HOR := Bx.mk (No.one R)
      have hRK := Bx.mk hRo
      unfold No.val at HHe
      clear hU hkc hN hRo
      go_upto_region 14 with (first
        | (go_at_call 41; refine HHe.out.mono ?_; rintro r w5 ⟨x', rfl, hU5, hsm, hxu, hab, hk5⟩
           have HY5 : Bx (YAt w5 { y1 with us := y1.us.set ui x' } ∧ Kp x.mem W w5 ∧ Us.sm x x' ∧ x'.abs = x.abs.come n) := ⟨HE2.out.at1.turnUnit ui x x' HX.out.1 hsm (HKX.out.trans hk5) hU5, HKX.out.trans hk5, hsm, hab⟩
           have HT2 := Bx.mk (there_noted w5 R hRK.out)
           have hB5 : Below w5.heap.size w5 ((w5.alloc (.cells No.zero.cells.toArray 86)).setCells w5.heap.size 0 R.cells) := below_noted (Below.refl _ _) R
           have HNo2 := Bx.mk (noteAt_noted w5 R hRK.out)
           clear hU5 hsm hxu hab hk5)
        | (refine wpList_store_mid rfl 86 _ _ rfl w5.heap.size 0 _ rfl rfl HT2.out HIR.out HOR.out ?_
           simp only [List.toList_toArray]
           generalize (w5.alloc (.cells No.zero.cells.toArray 86)).setCells w5.heap.size 0 R.cells = w6 at hB5 HNo2 ⊢))
      have HY6 : Bx (YAt w6 { y1 with us := y1.us.set ui x' } ∧ Kp y1.mem W w6 ∧ ¬ ({ y1 with us := y1.us.set ui x' } : YS).mem w5.heap.size) :=
        ⟨HY5.out.1.kept (fun k hk => hB5.block k (HY5.out.1.lt k hk)), (HY5.out.2.1.mono (fun k _ hk => hxm k hk)).trans (Kp.of_below hB5), fun hm => by have := HY5.out.1.lt _ hm; omega⟩
      clear hB5 HT2 HHe c0 HKX
      generalize w5.heap.size = ab at HNo2 HY6 ⊢
      refine wp_region_noPanic ?_
      refine wp_region_held_drew (S := SRp ab R) (by kernel_rfl) ⟨⟨HNo2.out.row⟩⟩ ?_
      intro hS
      have HY7 : Bx (YAt w6.drew { y1 with us := y1.us.set ui x' } ∧ Kp y1.mem W w6.drew) := ⟨HY6.out.1.kept (fun _ _ => rfl), ⟨HY6.out.2.1.os, HY6.out.2.1.tape, HY6.out.2.1.output, HY6.out.2.1.size, HY6.out.2.1.block⟩⟩
      have hnm := Bx.mk HY6.out.2.2
      clear HNo2 HY6
      generalize w6.drew = w7 at hS HY7 ⊢
      refine wpAnyH_take (i := 0) (v := ?_) rfl (by kernel_rfl) (by kernel_rfl) (by kernel_rfl) (fun _ _ _ h => h) (Or.inl ⟨by rfl, ?_⟩) (by assumption) ?_
      rotate_left
      · intro W1 h1; clear h1; go_simp; first | done | with_reducible rfl
      simp only [List.getElem_toArray, List.getElem_cons_succ, List.getElem_cons_zero, Act.put, List.setIfInBounds_toArray, List.set_cons_zero, List.set_cons_succ]
      refine wpAnyH_take (i := 1) (v := ?_) rfl (by kernel_rfl) (by kernel_rfl) (by kernel_rfl) (fun _ _ _ h => h) (Or.inl ⟨by rfl, ?_⟩) (by assumption) ?_
      rotate_left
      · intro W1 h1; clear h1; go_simp; first | done | with_reducible rfl
      simp only [List.getElem_toArray, List.getElem_cons_succ, List.getElem_cons_zero, Act.put, List.setIfInBounds_toArray, List.set_cons_zero, List.set_cons_succ]
      refine wpAnyH_take (i := 2) (v := ?_) rfl (by kernel_rfl) (by kernel_rfl) (by kernel_rfl) (fun _ _ _ h => h) (Or.inl ⟨by rfl, ?_⟩) (by assumption) ?_
      rotate_left
      · intro W1 h1; clear h1; go_simp; first | done | with_reducible rfl
      simp only [List.getElem_toArray, List.getElem_cons_succ, List.getElem_cons_zero, Act.put, List.setIfInBounds_toArray, List.set_cons_zero, List.set_cons_succ]
      refine wpAnyH_take (i := 3) (v := .agg R.cells.toArray) rfl (by kernel_rfl) (by kernel_rfl) (by kernel_rfl) (fun _ _ _ h => h) (yieldsIf_load_mid (by rfl) 86 _ rfl ab 0 rfl R.cells _ (fun W h => h.note.range) Try.underlying86 rfl HIR2.out) (by assumption) ?_
      simp only [List.getElem_toArray, List.getElem_cons_succ, List.getElem_cons_zero, Act.put, List.setIfInBounds_toArray, List.set_cons_zero, List.set_cons_succ]
      refine wpAnyH_ready (rs := [4]) (by kernel_rfl) (by simp) ?_
      refine AllReadyH.cons rfl (fun K hK => ?_) AllReadyH.nil
      rw [if_pos (by rfl)]
      refine wp_exec (exec_buildSlice _ _ _ rfl #[(0, .agg R.cells.toArray)] (by simp [Act.eval, Act.put]) _ _ (run_bs_note w7 R hRK.out)) ?_
      have hal : Below w7.heap.size w7 (w7.alloc (.cells R.cells.toArray 86)) := (Below.refl _ _).alloc (Nat.le_refl _) _
      have hnw := heap_alloc_new w7 (.cells R.cells.toArray 86)
      have HY8 : Bx (YAt (w7.alloc (.cells R.cells.toArray 86)) { y1 with us := y1.us.set ui x' } ∧ Kp y1.mem W (w7.alloc (.cells R.cells.toArray 86)) ∧ RowOf (w7.alloc (.cells R.cells.toArray 86)) 86 342 (.slice (some ⟨w7.heap.size, 0, none⟩) 1 1) [R].length (notes [R])) :=
        ⟨HY7.out.1.kept (fun k hk => hal.block k (HY7.out.1.lt k hk)), HY7.out.2.trans (Kp.of_below hal), by rw [notes_len _ (fun z hz => by simp at hz; rw [hz]; exact hRK.out)], .inr ⟨w7.heap.size, 1, _, rfl, hnw, by simp, by unfold maxLen; omega, by rw [List.size_toArray, No.cells_len _ hRK.out]; decide, by have hl9 := No.cells_len _ hRK.out; simp [notes]; exact List.take_of_length_le (by omega)⟩⟩
      refine hK.out _ _ ⟨hS.note.below hal⟩ (fun hS2 => ?_)
      clear hK K hS hal hnw HY7
      generalize w7.heap.size = sb at HY8 ⊢
      generalize w7.alloc (.cells R.cells.toArray 86) = w8 at hS2 HY8 ⊢
      try simp only [List.getElem_toArray, List.getElem_cons_succ, List.getElem_cons_zero, Act.put, List.setIfInBounds_toArray, List.set_cons_zero, List.set_cons_succ]
      refine wpAnyH_ready (rs := [5]) (by kernel_rfl) (by simp) ?_
      refine AllReadyH.cons rfl (fun K hK => ?_) AllReadyH.nil
      have hwl : y1.way.length ≤ 900000 := by
        have e := congrArg (fun a => a.way.length) HE2.out.abs
        have h1 := HH.out.2.2
        simp only [YS.abs, Ya.lose] at e
        first
        | exact h1
        | (rw [e]; have := List.length_eraseIdx_le (l := y.way) (i := i); omega)
      have HP : Bx (Calls Try.prog 35 #[.pointer (some ⟨y.yb, 2, none⟩), .slice (some ⟨sb, 0, none⟩) 1 1] w8 fun r w' => r = .returned (.tuple #[]) ∧ Step w8 w' { y1 with us := y1.us.set ui x' } { ({ y1 with us := y1.us.set ui x' } : YS).abs with way := ({ y1 with us := y1.us.set ui x' } : YS).way ++ [R] }) := ⟨by
        have h9 := put_step { y1 with us := y1.us.set ui x' } w8 HY8.out.1 [R] (.slice (some ⟨sb, 0, none⟩) 1 1) HY8.out.2.2 (fun z hz => by simp at hz; rw [hz]; exact hRK.out) (by show y1.way.length + 1 ≤ _; omega) (fun e => by simp at e)
        have hyb : y1.yb = y.yb := HE2.out.same.1
        rw [← hyb]
        exact h9⟩
      have hsn := hS2.note.row
      have HSN := Bx.mk hsn
      clear hS2 hsn hwl
      go_simp
      refine HP.out.mono ?_
      rintro e w9 ⟨rfl, hst⟩
      have hnt9 : NoteAt w9 ab R := by
        obtain ⟨y9, b1, b2, b3, b4, b5⟩ := hst
        exact ⟨(b5.block _ (heap_lt HSN.out) hnm.out).trans HSN.out⟩
      have hfin := Step.after (y := y) (w := w) (w1 := w8) (y1 := { y1 with us := y1.us.set ui x' }) (HE2.out.kp.over2 HE2.out.mem HY8.out.2.1) (fun k hk => HE2.out.mem k (YAt.mem_unit ui x x' HX.out.1 HY5.out.2.2.1 k hk)) HE2.out.same hst
      refine hK.out _ _ ⟨hnt9⟩ (fun _ => ?_)
      clear hK K hnt9 hst
      refine wpAnyH_done (by kernel_rfl) ?_ _
      refine NoPanic.normal ?_
      have hab : ({ ({ y1 with us := y1.us.set ui x' } : YS).abs with way := ({ y1 with us := y1.us.set ui x' } : YS).way ++ [R] } : Ya) = y.abs.deliver i false := by
        rw [hD.out, hRe.out]
        have e := HE2.out.abs
        have e1 : y1.h = y.h := congrArg (fun a => a.h) e
        have e2 : y1.us.map Us.abs = y.us.map Us.abs := congrArg (fun a => a.us) e
        have e3 := congrArg (fun a => a.way) e
        simp only [YS.abs, Ya.lose] at e3 ⊢
        rw [List.map_set, e1, e2, HY5.out.2.2.2, HX.out.2.1]
        simp only [YS.abs, Bool.false_eq_true, if_false, if_true]
        all_goals first
        | rfl
        | (rw [e3])
      rw [hab] at hfin
      have HF := Bx.mk hfin
      clear hfin hab hxm
      go_wp2_with fail
      go_ret
      exact ⟨rfl, HF.out⟩
  · go_upto_region 6 with (first
      | (go_at_call 37; refine HA.out.mono ?_; rintro r w1 ⟨rfl, hB⟩
         have HT := Bx.mk (there_noted w1 n hok.out)
         have hB2 := below_noted hB n
         have HNo := Bx.mk (noteAt_noted w1 n hok.out)
         have hsz := Bx.mk hB.size
         clear hB)
      | (refine wpList_store_mid rfl 86 _ _ rfl w1.heap.size 0 _ rfl rfl HT.out HI.out HO.out ?_
         simp only [List.toList_toArray]
         generalize (w1.alloc (.cells No.zero.cells.toArray 86)).setCells w1.heap.size 0 n.cells = w3 at hB2 HNo ⊢
         have HB2 := Bx.mk hB2
         clear hB2))
    have hE : DvE w y y w1.heap.size n y.abs w3 := by
      have hlt := HH.out.1.lt
      have hs := hsz.out
      exact ⟨HH.out.1.kept (fun k hk => HB2.out.block k (hlt k hk)), Kp.of_below HB2.out, fun k hk => .inl hk, ⟨rfl, rfl⟩, rfl, HNo.out, fun hm => by have := hlt _ hm; omega⟩
    clear HB2 HNo hsz HT HA
    generalize w1.heap.size = nb at hE ⊢
    have c4 := hE.note.cell 4 _ rfl
    rw [ha] at c4
    have HE := Bx.mk hE
    clear hE ha
    go_wp2_with fail
    refine wp_region_noPanic ?_
    refine wp_region_held_drew (S := SRg nb n y) (by kernel_rfl) ⟨HE.out.drew.at1, HE.out.drew.note⟩ ?_
    intro hS
    have HE2 := Bx.mk HE.out.drew
    clear HE c4
    generalize w3.drew = X at hS HE2 ⊢
    refine wpAnyH_take (i := 0) (v := ?_) rfl (by kernel_rfl) (by kernel_rfl) (by kernel_rfl) (fun _ _ _ h => h) (Or.inl ⟨by rfl, ?_⟩) (by assumption) ?_
    rotate_left
    · intro W1 h1; have d1 := h1.note.cell 0 _ rfl; clear h1; go_simp; first | done | with_reducible rfl
    simp only [List.getElem_toArray, List.getElem_cons_succ, List.getElem_cons_zero, Act.put, List.setIfInBounds_toArray, List.set_cons_zero, List.set_cons_succ]
    refine wpAnyH_take (i := 1) (v := ?_) rfl (by kernel_rfl) (by kernel_rfl) (by kernel_rfl) (fun _ _ _ h => h) (Or.inl ⟨by rfl, ?_⟩) (by assumption) ?_
    rotate_left
    · intro W1 h1; have d1 := h1.note.cell 0 _ rfl; clear h1; go_simp; first | done | with_reducible rfl
    simp only [List.getElem_toArray, List.getElem_cons_succ, List.getElem_cons_zero, Act.put, List.setIfInBounds_toArray, List.set_cons_zero, List.set_cons_succ]
    refine wpAnyH_take (i := 2) (v := ?_) rfl (by kernel_rfl) (by kernel_rfl) (by kernel_rfl) (fun _ _ _ h => h) (Or.inl ⟨by rfl, ?_⟩) (by assumption) ?_
    rotate_left
    · intro W1 h1; have d1 := h1.note.cell 0 _ rfl; clear h1; go_simp; first | done | with_reducible rfl
    simp only [List.getElem_toArray, List.getElem_cons_succ, List.getElem_cons_zero, Act.put, List.setIfInBounds_toArray, List.set_cons_zero, List.set_cons_succ]
    refine wpAnyH_take (i := 3) (v := ?_) rfl (by kernel_rfl) (by kernel_rfl) (by kernel_rfl) (fun _ _ _ h => h) (Or.inl ⟨by rfl, ?_⟩) (by assumption) ?_
    rotate_left
    · intro W1 h1; have d1 := h1.note.cell 0 _ rfl; clear h1; go_simp; first | done | with_reducible rfl
    simp only [List.getElem_toArray, List.getElem_cons_succ, List.getElem_cons_zero, Act.put, List.setIfInBounds_toArray, List.set_cons_zero, List.set_cons_succ]
    refine wpAnyH_take (i := 4) (v := ?_) rfl (by kernel_rfl) (by kernel_rfl) (by kernel_rfl) (fun _ _ _ h => h) (Or.inl ⟨by rfl, ?_⟩) (by assumption) ?_
    rotate_left
    · intro W1 h1; have d1 := h1.note.cell 0 _ rfl; clear h1; go_simp; first | done | with_reducible rfl
    simp only [List.getElem_toArray, List.getElem_cons_succ, List.getElem_cons_zero, Act.put, List.setIfInBounds_toArray, List.set_cons_zero, List.set_cons_succ]
    have hul : y.us.length = y.us.length := by
      first
      | rfl
      | (have e := congrArg (fun a => a.us.length) HE2.out.abs
         simp only [YS.abs, Ya.lose, List.length_map] at e
         exact e)
    obtain ⟨x, hx⟩ : ∃ x, y.us[ui]? = some x := ⟨_, List.getElem?_eq_getElem (by have := HQ.out.2.1; omega)⟩
    have hxa : x.abs = y.abs.us.getD ui ⟨0, .none⟩ := by
      first
      | exact (abs_at hx _).symm
      | (have e := congrArg (fun a => a.us.getD ui ⟨0, .none⟩) HE2.out.abs
         simp only [Ya.lose] at e
         rw [← e, abs_at hx])
    have HX := Bx.mk (And.intro hx (And.intro hxa (And.intro hul (HE2.out.at1.un x (List.mem_iff_getElem?.2 ⟨ui, hx⟩)))))
    clear hx hxa hul
    refine wpAnyH_ready (rs := [5]) (by kernel_rfl) (by simp) ?_
    refine AllReadyH.cons rfl (fun K hK => ?_) AllReadyH.nil
    have HU := Bx.mk (unit_at y X HE2.out.at1 (by rw [HX.out.2.2.1]; exact HQ.out.2.2.2) ui x HX.out.1)
    rw [HE2.out.same.1, ← HQ.out.1] at HU
    clear hS
    go_simp
    refine HU.out.mono ?_
    rintro e W ⟨rfl, rfl⟩
    refine hK.out _ _ ⟨HE2.out.at1, HE2.out.note⟩ (fun hS => ?_)
    clear hK K HU
    try simp only [List.getElem_toArray, List.getElem_cons_succ, List.getElem_cons_zero, Act.put, List.setIfInBounds_toArray, List.set_cons_zero, List.set_cons_succ]
    refine wpAnyH_take (i := 6) (v := ?_) rfl (by kernel_rfl) (by kernel_rfl) (by kernel_rfl) (fun _ _ _ h => h) (Or.inl ⟨by rfl, ?_⟩) (by assumption) ?_
    rotate_left
    · intro W1 h1; clear h1; go_simp; first | done | with_reducible rfl
    simp only [List.getElem_toArray, List.getElem_cons_succ, List.getElem_cons_zero, Act.put, List.setIfInBounds_toArray, List.set_cons_zero, List.set_cons_succ]
    refine wpAnyH_take (i := 7) (v := ?_) rfl (by kernel_rfl) (by kernel_rfl) (by kernel_rfl) (fun _ _ _ h => h) (Or.inl ⟨by rfl, ?_⟩) (by assumption) ?_
    rotate_left
    · intro W1 h1; clear h1; go_simp; first | done | with_reducible rfl
    simp only [List.getElem_toArray, List.getElem_cons_succ, List.getElem_cons_zero, Act.put, List.setIfInBounds_toArray, List.set_cons_zero, List.set_cons_succ]
    refine wpAnyH_take (i := 8) (v := ?_) rfl (by kernel_rfl) (by kernel_rfl) (by kernel_rfl) (fun _ _ _ h => h) (Or.inl ⟨by rfl, ?_⟩) (by assumption) ?_
    rotate_left
    · intro W1 h1; clear h1; go_simp; first | done | with_reducible rfl
    simp only [List.getElem_toArray, List.getElem_cons_succ, List.getElem_cons_zero, Act.put, List.setIfInBounds_toArray, List.set_cons_zero, List.set_cons_succ]
    refine wpAnyH_take (i := 9) (v := ?_) rfl (by kernel_rfl) (by kernel_rfl) (by kernel_rfl) (fun _ _ _ h => h) (Or.inl ⟨by rfl, ?_⟩) (by assumption) ?_
    rotate_left
    · intro W1 h1; clear h1; go_simp; first | done | with_reducible rfl
    simp only [List.getElem_toArray, List.getElem_cons_succ, List.getElem_cons_zero, Act.put, List.setIfInBounds_toArray, List.set_cons_zero, List.set_cons_succ]
    refine wpAnyH_take (i := 10) (v := ?_) rfl (by kernel_rfl) (by kernel_rfl) (by kernel_rfl) (fun _ _ _ h => h) (Or.inl ⟨by rfl, ?_⟩) (by assumption) ?_
    rotate_left
    · intro W1 h1; clear h1; go_simp; first | done | with_reducible rfl
    simp only [List.getElem_toArray, List.getElem_cons_succ, List.getElem_cons_zero, Act.put, List.setIfInBounds_toArray, List.set_cons_zero, List.set_cons_succ]
    refine wpAnyH_done (by kernel_rfl) ?_ _
    refine NoPanic.normal ?_
    clear hS
    go_upto_region 11 with (fail)
    go_cut [] (fun wx => UnB wx x [n] ∧ Kp (fun k => k = x.un.ch) W wx)
    case first =>
      obtain ⟨cs, cr, hcc⟩ := HX.out.2.2.2.c
      have HC := Bx.mk hcc
      have c5 := HX.out.2.2.2.cchan
      have HNr := Bx.mk (show W.drew.rangeAt nb 0 n.cells from HE2.out.note.range)
      clear hcc
      refine wp_region_orders (by kernel_rfl) (L := [[0, 1, 2, 3, 4, 5], [0, 1, 2, 4, 3, 5], [0, 1, 4, 2, 3, 5], [0, 4, 1, 2, 3, 5], [4, 0, 1, 2, 3, 5]]) (by kernel_rfl) ?_
      intro l hl
      simp only [List.mem_cons, List.not_mem_nil, or_false] at hl
      have hfin : ∀ {ops : Array Oper} {Q : Exit → Act → World → Prop} {a : Act} {o : Oper}, ops[5]? = some o → o.guard = none → o.dst = none → (execOp a.eval o).run Try.prog W.drew = .ok (.comm #[Conc.scase x.un.ch n.val (.tuple #[])] true .send) W.drew →
          (∀ W', UnB W' x [n] → Kp (fun k => k = x.un.ch) W W' → Q .normal a W') → OpsAt Try.prog ops Q [5] a W.drew := by
        intro ops Q a o h1 h2 h3 h4 h5
        refine OpsAt.send h1 h2 h4 (show W.drew.heap[x.un.ch]? = some (.chan 1 #[] false cs cr false) from HC.out) (by simp) (OpsAt.nil ?_)
        rw [h3]
        refine h5 _ ?_ ?_
        · have hU : UnB W.drew x [] := HX.out.2.2.2.kept (fun _ _ => rfl)
          exact hU.setChan [n] (cs + 1) cr
        · have := Kp.chan W.drew x.un.ch 1 (#[].push n.val) false (cs + 1) cr false
          exact ⟨this.os, this.tape, this.output, this.size, this.block⟩
      rcases hl with rfl | rfl | rfl | rfl | rfl
      · refine OpsAt.quiet (v := ?_) rfl rfl ?_ ?_
        rotate_left
        · go_simp; first | done | with_reducible rfl
        simp only [List.getElem_toArray, List.getElem_cons_succ, List.getElem_cons_zero, Act.put, List.setIfInBounds_toArray, List.set_cons_zero, List.set_cons_succ]
        refine OpsAt.quiet (v := ?_) rfl rfl ?_ ?_
        rotate_left
        · go_simp; first | done | with_reducible rfl
        simp only [List.getElem_toArray, List.getElem_cons_succ, List.getElem_cons_zero, Act.put, List.setIfInBounds_toArray, List.set_cons_zero, List.set_cons_succ]
        refine OpsAt.quiet (v := ?_) rfl rfl ?_ ?_
        rotate_left
        · go_simp; first | done | with_reducible rfl
        simp only [List.getElem_toArray, List.getElem_cons_succ, List.getElem_cons_zero, Act.put, List.setIfInBounds_toArray, List.set_cons_zero, List.set_cons_succ]
        refine OpsAt.quiet (v := ?_) rfl rfl ?_ ?_
        rotate_left
        · go_simp; first | done | with_reducible rfl
        simp only [List.getElem_toArray, List.getElem_cons_succ, List.getElem_cons_zero, Act.put, List.setIfInBounds_toArray, List.set_cons_zero, List.set_cons_succ]
        refine OpsAt.value rfl rfl (exec_load_mid 86 _ rfl nb 0 rfl n.cells _ HNr.out Try.underlying86 rfl HI2.out) ?_
        try simp only [List.getElem_toArray, List.getElem_cons_succ, List.getElem_cons_zero, Act.put, List.setIfInBounds_toArray, List.set_cons_zero, List.set_cons_succ]
        refine hfin rfl rfl rfl (Go.Proofs.Ytimdaceidhdaeaa.exec_send rfl rfl rfl) (fun W' hU hk => ?_)
        clear hfin
        go_wp2_with fail
        go_meet
        exact ⟨hU, hk⟩
      · refine OpsAt.quiet (v := ?_) rfl rfl ?_ ?_
        rotate_left
        · go_simp; first | done | with_reducible rfl
        simp only [List.getElem_toArray, List.getElem_cons_succ, List.getElem_cons_zero, Act.put, List.setIfInBounds_toArray, List.set_cons_zero, List.set_cons_succ]
        refine OpsAt.quiet (v := ?_) rfl rfl ?_ ?_
        rotate_left
        · go_simp; first | done | with_reducible rfl
        simp only [List.getElem_toArray, List.getElem_cons_succ, List.getElem_cons_zero, Act.put, List.setIfInBounds_toArray, List.set_cons_zero, List.set_cons_succ]
        refine OpsAt.quiet (v := ?_) rfl rfl ?_ ?_
        rotate_left
        · go_simp; first | done | with_reducible rfl
        simp only [List.getElem_toArray, List.getElem_cons_succ, List.getElem_cons_zero, Act.put, List.setIfInBounds_toArray, List.set_cons_zero, List.set_cons_succ]
        refine OpsAt.value rfl rfl (exec_load_mid 86 _ rfl nb 0 rfl n.cells _ HNr.out Try.underlying86 rfl HI2.out) ?_
        try simp only [List.getElem_toArray, List.getElem_cons_succ, List.getElem_cons_zero, Act.put, List.setIfInBounds_toArray, List.set_cons_zero, List.set_cons_succ]
        refine OpsAt.quiet (v := ?_) rfl rfl ?_ ?_
        rotate_left
        · go_simp; first | done | with_reducible rfl
        simp only [List.getElem_toArray, List.getElem_cons_succ, List.getElem_cons_zero, Act.put, List.setIfInBounds_toArray, List.set_cons_zero, List.set_cons_succ]
        refine hfin rfl rfl rfl (Go.Proofs.Ytimdaceidhdaeaa.exec_send rfl rfl rfl) (fun W' hU hk => ?_)
        clear hfin
        go_wp2_with fail
        go_meet
        exact ⟨hU, hk⟩
      · refine OpsAt.quiet (v := ?_) rfl rfl ?_ ?_
        rotate_left
        · go_simp; first | done | with_reducible rfl
        simp only [List.getElem_toArray, List.getElem_cons_succ, List.getElem_cons_zero, Act.put, List.setIfInBounds_toArray, List.set_cons_zero, List.set_cons_succ]
        refine OpsAt.quiet (v := ?_) rfl rfl ?_ ?_
        rotate_left
        · go_simp; first | done | with_reducible rfl
        simp only [List.getElem_toArray, List.getElem_cons_succ, List.getElem_cons_zero, Act.put, List.setIfInBounds_toArray, List.set_cons_zero, List.set_cons_succ]
        refine OpsAt.value rfl rfl (exec_load_mid 86 _ rfl nb 0 rfl n.cells _ HNr.out Try.underlying86 rfl HI2.out) ?_
        try simp only [List.getElem_toArray, List.getElem_cons_succ, List.getElem_cons_zero, Act.put, List.setIfInBounds_toArray, List.set_cons_zero, List.set_cons_succ]
        refine OpsAt.quiet (v := ?_) rfl rfl ?_ ?_
        rotate_left
        · go_simp; first | done | with_reducible rfl
        simp only [List.getElem_toArray, List.getElem_cons_succ, List.getElem_cons_zero, Act.put, List.setIfInBounds_toArray, List.set_cons_zero, List.set_cons_succ]
        refine OpsAt.quiet (v := ?_) rfl rfl ?_ ?_
        rotate_left
        · go_simp; first | done | with_reducible rfl
        simp only [List.getElem_toArray, List.getElem_cons_succ, List.getElem_cons_zero, Act.put, List.setIfInBounds_toArray, List.set_cons_zero, List.set_cons_succ]
        refine hfin rfl rfl rfl (Go.Proofs.Ytimdaceidhdaeaa.exec_send rfl rfl rfl) (fun W' hU hk => ?_)
        clear hfin
        go_wp2_with fail
        go_meet
        exact ⟨hU, hk⟩
      · refine OpsAt.quiet (v := ?_) rfl rfl ?_ ?_
        rotate_left
        · go_simp; first | done | with_reducible rfl
        simp only [List.getElem_toArray, List.getElem_cons_succ, List.getElem_cons_zero, Act.put, List.setIfInBounds_toArray, List.set_cons_zero, List.set_cons_succ]
        refine OpsAt.value rfl rfl (exec_load_mid 86 _ rfl nb 0 rfl n.cells _ HNr.out Try.underlying86 rfl HI2.out) ?_
        try simp only [List.getElem_toArray, List.getElem_cons_succ, List.getElem_cons_zero, Act.put, List.setIfInBounds_toArray, List.set_cons_zero, List.set_cons_succ]
        refine OpsAt.quiet (v := ?_) rfl rfl ?_ ?_
        rotate_left
        · go_simp; first | done | with_reducible rfl
        simp only [List.getElem_toArray, List.getElem_cons_succ, List.getElem_cons_zero, Act.put, List.setIfInBounds_toArray, List.set_cons_zero, List.set_cons_succ]
        refine OpsAt.quiet (v := ?_) rfl rfl ?_ ?_
        rotate_left
        · go_simp; first | done | with_reducible rfl
        simp only [List.getElem_toArray, List.getElem_cons_succ, List.getElem_cons_zero, Act.put, List.setIfInBounds_toArray, List.set_cons_zero, List.set_cons_succ]
        refine OpsAt.quiet (v := ?_) rfl rfl ?_ ?_
        rotate_left
        · go_simp; first | done | with_reducible rfl
        simp only [List.getElem_toArray, List.getElem_cons_succ, List.getElem_cons_zero, Act.put, List.setIfInBounds_toArray, List.set_cons_zero, List.set_cons_succ]
        refine hfin rfl rfl rfl (Go.Proofs.Ytimdaceidhdaeaa.exec_send rfl rfl rfl) (fun W' hU hk => ?_)
        clear hfin
        go_wp2_with fail
        go_meet
        exact ⟨hU, hk⟩
      · refine OpsAt.value rfl rfl (exec_load_mid 86 _ rfl nb 0 rfl n.cells _ HNr.out Try.underlying86 rfl HI2.out) ?_
        try simp only [List.getElem_toArray, List.getElem_cons_succ, List.getElem_cons_zero, Act.put, List.setIfInBounds_toArray, List.set_cons_zero, List.set_cons_succ]
        refine OpsAt.quiet (v := ?_) rfl rfl ?_ ?_
        rotate_left
        · go_simp; first | done | with_reducible rfl
        simp only [List.getElem_toArray, List.getElem_cons_succ, List.getElem_cons_zero, Act.put, List.setIfInBounds_toArray, List.set_cons_zero, List.set_cons_succ]
        refine OpsAt.quiet (v := ?_) rfl rfl ?_ ?_
        rotate_left
        · go_simp; first | done | with_reducible rfl
        simp only [List.getElem_toArray, List.getElem_cons_succ, List.getElem_cons_zero, Act.put, List.setIfInBounds_toArray, List.set_cons_zero, List.set_cons_succ]
        refine OpsAt.quiet (v := ?_) rfl rfl ?_ ?_
        rotate_left
        · go_simp; first | done | with_reducible rfl
        simp only [List.getElem_toArray, List.getElem_cons_succ, List.getElem_cons_zero, Act.put, List.setIfInBounds_toArray, List.set_cons_zero, List.set_cons_succ]
        refine OpsAt.quiet (v := ?_) rfl rfl ?_ ?_
        rotate_left
        · go_simp; first | done | with_reducible rfl
        simp only [List.getElem_toArray, List.getElem_cons_succ, List.getElem_cons_zero, Act.put, List.setIfInBounds_toArray, List.set_cons_zero, List.set_cons_succ]
        refine hfin rfl rfl rfl (Go.Proofs.Ytimdaceidhdaeaa.exec_send rfl rfl rfl) (fun W' hU hk => ?_)
        clear hfin
        go_wp2_with fail
        go_meet
        exact ⟨hU, hk⟩
    case rest =>
      obtain ⟨hU, hkc⟩ := hcut
      have hxm : ∀ k, x.mem k → y.mem k := fun k hk => .inr (.inr (.inr (.inr (.inr (.inr ⟨x, List.mem_iff_getElem?.2 ⟨ui, HX.out.1⟩, hk⟩)))))
      have hN : NoteAt wc nb n := ⟨(hkc.block _ (heap_lt HE2.out.note.row) (fun e => HE2.out.nn (hxm _ (.inr (.inr e))))).trans HE2.out.note.row⟩
      have c0 := hN.cell 0 _ rfl
      have HKX : Bx (Kp x.mem W wc) := ⟨hkc.mono (fun k _ e => .inr (.inr e))⟩
      have HHe := Bx.mk (HQ.out.2.2.1 x wc n.u hU HX.out.2.1)
      have hRo : (Uu.word (x.abs.come n) n.u).p.ok := Po.zero_ok
      have hRe : Bx (Uu.word (x.abs.come n) n.u = ((y.abs.us.getD ui ⟨0, .none⟩).come n).word ui) := ⟨by rw [← HX.out.2.1, HQ.out.1]⟩
      generalize Uu.word (x.abs.come n) n.u = R at HHe hRo hRe
      have HIR := Bx.mk (size86s R hRo)
      have HIR2 := Bx.mk (size86 R hRo)
      have HOR := Bx.mk (No.one R)
      have hRK := Bx.mk hRo
      unfold No.val at HHe
      clear hU hkc hN hRo
      go_upto_region 14 with (first
        | (go_at_call 41; refine HHe.out.mono ?_; rintro r w5 ⟨x', rfl, hU5, hsm, hxu, hab, hk5⟩
           have HY5 : Bx (YAt w5 { y with us := y.us.set ui x' } ∧ Kp x.mem W w5 ∧ Us.sm x x' ∧ x'.abs = x.abs.come n) := ⟨HE2.out.at1.turnUnit ui x x' HX.out.1 hsm (HKX.out.trans hk5) hU5, HKX.out.trans hk5, hsm, hab⟩
           have HT2 := Bx.mk (there_noted w5 R hRK.out)
           have hB5 : Below w5.heap.size w5 ((w5.alloc (.cells No.zero.cells.toArray 86)).setCells w5.heap.size 0 R.cells) := below_noted (Below.refl _ _) R
           have HNo2 := Bx.mk (noteAt_noted w5 R hRK.out)
           clear hU5 hsm hxu hab hk5)
        | (refine wpList_store_mid rfl 86 _ _ rfl w5.heap.size 0 _ rfl rfl HT2.out HIR.out HOR.out ?_
           simp only [List.toList_toArray]
           generalize (w5.alloc (.cells No.zero.cells.toArray 86)).setCells w5.heap.size 0 R.cells = w6 at hB5 HNo2 ⊢))
      have HY6 : Bx (YAt w6 { y with us := y.us.set ui x' } ∧ Kp y.mem W w6 ∧ ¬ ({ y with us := y.us.set ui x' } : YS).mem w5.heap.size) :=
        ⟨HY5.out.1.kept (fun k hk => hB5.block k (HY5.out.1.lt k hk)), (HY5.out.2.1.mono (fun k _ hk => hxm k hk)).trans (Kp.of_below hB5), fun hm => by have := HY5.out.1.lt _ hm; omega⟩
      clear hB5 HT2 HHe c0 HKX
      generalize w5.heap.size = ab at HNo2 HY6 ⊢
      refine wp_region_noPanic ?_
      refine wp_region_held_drew (S := SRp ab R) (by kernel_rfl) ⟨⟨HNo2.out.row⟩⟩ ?_
      intro hS
      have HY7 : Bx (YAt w6.drew { y with us := y.us.set ui x' } ∧ Kp y.mem W w6.drew) := ⟨HY6.out.1.kept (fun _ _ => rfl), ⟨HY6.out.2.1.os, HY6.out.2.1.tape, HY6.out.2.1.output, HY6.out.2.1.size, HY6.out.2.1.block⟩⟩
      have hnm := Bx.mk HY6.out.2.2
      clear HNo2 HY6
      generalize w6.drew = w7 at hS HY7 ⊢
      refine wpAnyH_take (i := 0) (v := ?_) rfl (by kernel_rfl) (by kernel_rfl) (by kernel_rfl) (fun _ _ _ h => h) (Or.inl ⟨by rfl, ?_⟩) (by assumption) ?_
      rotate_left
      · intro W1 h1; clear h1; go_simp; first | done | with_reducible rfl
      simp only [List.getElem_toArray, List.getElem_cons_succ, List.getElem_cons_zero, Act.put, List.setIfInBounds_toArray, List.set_cons_zero, List.set_cons_succ]
      refine wpAnyH_take (i := 1) (v := ?_) rfl (by kernel_rfl) (by kernel_rfl) (by kernel_rfl) (fun _ _ _ h => h) (Or.inl ⟨by rfl, ?_⟩) (by assumption) ?_
      rotate_left
      · intro W1 h1; clear h1; go_simp; first | done | with_reducible rfl
      simp only [List.getElem_toArray, List.getElem_cons_succ, List.getElem_cons_zero, Act.put, List.setIfInBounds_toArray, List.set_cons_zero, List.set_cons_succ]
      refine wpAnyH_take (i := 2) (v := ?_) rfl (by kernel_rfl) (by kernel_rfl) (by kernel_rfl) (fun _ _ _ h => h) (Or.inl ⟨by rfl, ?_⟩) (by assumption) ?_
      rotate_left
      · intro W1 h1; clear h1; go_simp; first | done | with_reducible rfl
      simp only [List.getElem_toArray, List.getElem_cons_succ, List.getElem_cons_zero, Act.put, List.setIfInBounds_toArray, List.set_cons_zero, List.set_cons_succ]
      refine wpAnyH_take (i := 3) (v := .agg R.cells.toArray) rfl (by kernel_rfl) (by kernel_rfl) (by kernel_rfl) (fun _ _ _ h => h) (yieldsIf_load_mid (by rfl) 86 _ rfl ab 0 rfl R.cells _ (fun W h => h.note.range) Try.underlying86 rfl HIR2.out) (by assumption) ?_
      simp only [List.getElem_toArray, List.getElem_cons_succ, List.getElem_cons_zero, Act.put, List.setIfInBounds_toArray, List.set_cons_zero, List.set_cons_succ]
      refine wpAnyH_ready (rs := [4]) (by kernel_rfl) (by simp) ?_
      refine AllReadyH.cons rfl (fun K hK => ?_) AllReadyH.nil
      rw [if_pos (by rfl)]
      refine wp_exec (exec_buildSlice _ _ _ rfl #[(0, .agg R.cells.toArray)] (by simp [Act.eval, Act.put]) _ _ (run_bs_note w7 R hRK.out)) ?_
      have hal : Below w7.heap.size w7 (w7.alloc (.cells R.cells.toArray 86)) := (Below.refl _ _).alloc (Nat.le_refl _) _
      have hnw := heap_alloc_new w7 (.cells R.cells.toArray 86)
      have HY8 : Bx (YAt (w7.alloc (.cells R.cells.toArray 86)) { y with us := y.us.set ui x' } ∧ Kp y.mem W (w7.alloc (.cells R.cells.toArray 86)) ∧ RowOf (w7.alloc (.cells R.cells.toArray 86)) 86 342 (.slice (some ⟨w7.heap.size, 0, none⟩) 1 1) [R].length (notes [R])) :=
        ⟨HY7.out.1.kept (fun k hk => hal.block k (HY7.out.1.lt k hk)), HY7.out.2.trans (Kp.of_below hal), by rw [notes_len _ (fun z hz => by simp at hz; rw [hz]; exact hRK.out)], .inr ⟨w7.heap.size, 1, _, rfl, hnw, by simp, by unfold maxLen; omega, by rw [List.size_toArray, No.cells_len _ hRK.out]; decide, by have hl9 := No.cells_len _ hRK.out; simp [notes]; exact List.take_of_length_le (by omega)⟩⟩
      refine hK.out _ _ ⟨hS.note.below hal⟩ (fun hS2 => ?_)
      clear hK K hS hal hnw HY7
      generalize w7.heap.size = sb at HY8 ⊢
      generalize w7.alloc (.cells R.cells.toArray 86) = w8 at hS2 HY8 ⊢
      try simp only [List.getElem_toArray, List.getElem_cons_succ, List.getElem_cons_zero, Act.put, List.setIfInBounds_toArray, List.set_cons_zero, List.set_cons_succ]
      refine wpAnyH_ready (rs := [5]) (by kernel_rfl) (by simp) ?_
      refine AllReadyH.cons rfl (fun K hK => ?_) AllReadyH.nil
      have hwl : y.way.length ≤ 900000 := by
        have e := congrArg (fun a => a.way.length) HE2.out.abs
        have h1 := HH.out.2.2
        simp only [YS.abs, Ya.lose] at e
        first
        | exact h1
        | (rw [e]; have := List.length_eraseIdx_le (l := y.way) (i := i); omega)
      have HP : Bx (Calls Try.prog 35 #[.pointer (some ⟨y.yb, 2, none⟩), .slice (some ⟨sb, 0, none⟩) 1 1] w8 fun r w' => r = .returned (.tuple #[]) ∧ Step w8 w' { y with us := y.us.set ui x' } { ({ y with us := y.us.set ui x' } : YS).abs with way := ({ y with us := y.us.set ui x' } : YS).way ++ [R] }) := ⟨by
        have h9 := put_step { y with us := y.us.set ui x' } w8 HY8.out.1 [R] (.slice (some ⟨sb, 0, none⟩) 1 1) HY8.out.2.2 (fun z hz => by simp at hz; rw [hz]; exact hRK.out) (by show y.way.length + 1 ≤ _; omega) (fun e => by simp at e)
        have hyb : y.yb = y.yb := HE2.out.same.1
        rw [← hyb]
        exact h9⟩
      have hsn := hS2.note.row
      have HSN := Bx.mk hsn
      clear hS2 hsn hwl
      go_simp
      refine HP.out.mono ?_
      rintro e w9 ⟨rfl, hst⟩
      have hnt9 : NoteAt w9 ab R := by
        obtain ⟨y9, b1, b2, b3, b4, b5⟩ := hst
        exact ⟨(b5.block _ (heap_lt HSN.out) hnm.out).trans HSN.out⟩
      have hfin := Step.after (y := y) (w := w) (w1 := w8) (y1 := { y with us := y.us.set ui x' }) (HE2.out.kp.over2 HE2.out.mem HY8.out.2.1) (fun k hk => HE2.out.mem k (YAt.mem_unit ui x x' HX.out.1 HY5.out.2.2.1 k hk)) HE2.out.same hst
      refine hK.out _ _ ⟨hnt9⟩ (fun _ => ?_)
      clear hK K hnt9 hst
      refine wpAnyH_done (by kernel_rfl) ?_ _
      refine NoPanic.normal ?_
      have hab : ({ ({ y with us := y.us.set ui x' } : YS).abs with way := ({ y with us := y.us.set ui x' } : YS).way ++ [R] } : Ya) = y.abs.deliver i true := by
        rw [hD.out, hRe.out]
        have e := HE2.out.abs
        have e1 : y.h = y.h := congrArg (fun a => a.h) e
        have e2 : y.us.map Us.abs = y.us.map Us.abs := congrArg (fun a => a.us) e
        have e3 := congrArg (fun a => a.way) e
        simp only [YS.abs, Ya.lose] at e3 ⊢
        rw [List.map_set, e1, e2, HY5.out.2.2.2, HX.out.2.1]
        simp only [YS.abs, Bool.false_eq_true, if_false, if_true]
        all_goals first
        | rfl
        | (rw [e3])
      rw [hab] at hfin
      have HF := Bx.mk hfin
      clear hfin hab hxm
      go_wp2_with fail
      go_ret
      exact ⟨rfl, HF.out⟩
end Go.Proofs.Ytimdaceidhdaeaa
