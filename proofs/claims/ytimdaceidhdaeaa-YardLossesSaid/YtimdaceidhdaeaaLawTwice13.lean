/- Proved: lemmas that the law's proof stands on (YardZ, YardN, PoolEq, LawA, YardQ). Conditions: as each states. -/
import Derived.Test.YtimdaceidhdaeaaLawTwice12

namespace Go.Proofs.Ytimdaceidhdaeaa
open Go.RowKit Go.Proofs
set_option maxHeartbeats 1000000 in
set_option maxRecDepth 10000 in
theorem yard_Deliver_out (y : YS) (w : World) (H : YAt w y) (i : Int) (keep : Bool) (hi : i < 0 ∨ (y.way.length : Int) ≤ i) :
    Calls Try.prog 14 #[.pointer (some ⟨y.yb, 0, none⟩), .int .i64 i, .bool keep] w fun r w' => r = .returned (.bool false) ∧ Step w w' y y.abs := by
  have HA := Bx.mk (note_at_out y w H i hi)
  have HH := Bx.mk H
  have HI := Bx.mk (size86s No.zero Po.zero_ok)
  have HO := Bx.mk (No.one No.zero)
  have hz := fun w => zero86 w
  clear H hi
  unfold No.val at HA
  go_enter Try.func14, Try.ntmps14
  go_wp2_with (first
    | (go_at_call 37; refine HA.out.mono ?_; rintro r w1 ⟨rfl, hB⟩
       have HT := Bx.mk (there_noted w1 No.zero Po.zero_ok)
       have hB2 := below_noted hB No.zero
       clear hB)
    | (refine wpList_store_mid rfl 86 _ _ rfl w1.heap.size 0 _ rfl rfl HT.out HI.out HO.out ?_
       simp only [List.toList_toArray]
       generalize (w1.alloc (.cells No.zero.cells.toArray 86)).setCells w1.heap.size 0 No.zero.cells = w2 at hB2 ⊢))
  go_ret
  exact ⟨rfl, Step.of_below HH.out hB2⟩
/-- A unit more, in new blocks. -/
theorem YAt.addUnit {W W5 : World} {y : YS} (h : YAt W y) (B : Nat) (hB : ∀ k, y.mem k → k < B) (x : Us) (hx : UnB W x []) (hge : ∀ k, x.mem k → B ≤ k) (v' : Value) (hk : Kp (fun k => k = y.yb ∨ y.uv.ownBlock = some k) W W5)
    (hrow : W5.heap[y.yb]? = some (.cells ((ycells y.hb y.uv y.wv).setIfInBounds 1 v') 76 (0, 0))) (hv : W5.ownsRow 0 78 1 v' (y.us.length + 1) ((y.us.map Us.ub ++ [x.ub]).map uptr))
    (hown : ∀ k, v'.ownBlock = some k → y.uv.ownBlock = some k ∨ W.heap.size ≤ k) :
    YAt W5 { y with uv := v', us := y.us ++ [x], role := fun k => if k < B then y.role k else if k = x.ub then 6 + 3 * y.us.length else if k = x.un.pb then 7 + 3 * y.us.length else if k = x.un.ch then 8 + 3 * y.us.length else 4 } := by
  have hlt := h.lt
  have hxl := hx.lt
  have hne := hx.ne
  have hro : ∀ k, k < B → (if k < B then y.role k else if k = x.ub then 6 + 3 * y.us.length else if k = x.un.pb then 7 + 3 * y.us.length else if k = x.un.ch then 8 + 3 * y.us.length else 4) = y.role k := fun k hk => if_pos hk
  have hkeep : ∀ k, y.mem k → y.role k ≠ 0 → y.role k ≠ 4 → W5.heap[k]? = W.heap[k]? := fun k hm h0 h4 => hk.block k (hlt k hm) (fun e => by
    rcases e with rfl | e
    · exact h0 h.r0
    · exact h4 (h.r4 k e))
  have m1 : y.mem y.hb := .inr (.inl rfl)
  have m2 : y.mem y.mb := .inr (.inr (.inl rfl))
  have m3 : y.mem y.cb := .inr (.inr (.inr (.inl rfl)))
  have m4 : ∀ k, y.uv.ownBlock = some k → y.mem k := fun k hk => .inr (.inr (.inr (.inr (.inl hk))))
  have mu : ∀ (i : Nat) (x : Us) (k : Nat), y.us[i]? = some x → x.mem k → y.mem k := fun i x k hi hm => .inr (.inr (.inr (.inr (.inr (.inr ⟨x, List.mem_iff_getElem?.2 ⟨i, hi⟩, hm⟩)))))
  have hxk : ∀ k, x.mem k → W5.heap[k]? = W.heap[k]? := fun k hm => hk.block k (hxl k hm) (fun e => by
    have h1 := hge k hm
    rcases e with e | e
    · have := hB _ (Or.inl rfl : y.mem y.yb); omega
    · have := hB _ (m4 k e); omega)
  refine { row := hrow, head := ?_, un := ?_, ur := ?_, wr := ?_, wok := h.wok, r0 := ?_, r1 := ?_, r2 := ?_, r3 := ?_, r4 := ?_, r5 := ?_, r6 := ?_ }
  · exact h.head.kept (hkeep _ m1 (by rw [h.r1]; decide) (by rw [h.r1]; decide)) (hkeep _ m2 (by rw [h.r2]; decide) (by rw [h.r2]; decide)) (hkeep _ m3 (by rw [h.r3]; decide) (by rw [h.r3]; decide))
  · intro z hz
    rcases List.mem_append.1 hz with hz | hz
    · obtain ⟨j, hj⟩ := List.mem_iff_getElem?.1 hz
      have h7 := h.r6 j z hj
      refine (h.un z hz).kept (fun k hm => hkeep k (mu j z k hj hm) ?_ ?_)
      all_goals (rcases hm with rfl | rfl | rfl <;> omega)
    · simp at hz; rw [hz]; exact hx.kept hxk
  · show W5.ownsRow 0 _ 1 v' (y.us ++ [x]).length (((y.us ++ [x]).map Us.ub).map uptr)
    rw [List.map_append, List.length_append]
    exact hv
  · exact h.wr.kept (fun k hm => hkeep k (.inr (.inr (.inr (.inr (.inr (.inl hm)))))) (by rw [h.r5 k hm]; decide) (by rw [h.r5 k hm]; decide))
  · exact (hro _ (hB _ (.inl rfl))).trans h.r0
  · exact (hro _ (hB _ m1)).trans h.r1
  · exact (hro _ (hB _ m2)).trans h.r2
  · exact (hro _ (hB _ m3)).trans h.r3
  · intro k hm
    show (if k < B then _ else _) = 4
    rcases hown k hm with h1 | h1
    · rw [if_pos (hB _ (m4 k h1))]; exact h.r4 k h1
    · have h2 : ¬ k < B := fun e => by
        have := hge x.ub (.inl rfl); have := hxl x.ub (.inl rfl); omega
      have e1 : k ≠ x.ub := fun e => by have := hxl x.ub (.inl rfl); omega
      have e2 : k ≠ x.un.pb := fun e => by have := hxl x.un.pb (.inr (.inl rfl)); omega
      have e3 : k ≠ x.un.ch := fun e => by have := hxl x.un.ch (.inr (.inr rfl)); omega
      rw [if_neg h2, if_neg e1, if_neg e2, if_neg e3]
  · intro k hm
    exact (hro k (hB k (.inr (.inr (.inr (.inr (.inr (.inl hm)))))))).trans (h.r5 k hm)
  · intro j z hj
    have hj : (y.us ++ [x])[j]? = some z := hj
    by_cases e : j < y.us.length
    · rw [List.getElem?_append_left e] at hj
      have h7 := h.r6 j z hj
      exact ⟨(hro _ (hB _ (mu j z _ hj (.inl rfl)))).trans h7.1, (hro _ (hB _ (mu j z _ hj (.inr (.inl rfl))))).trans h7.2.1, (hro _ (hB _ (mu j z _ hj (.inr (.inr rfl))))).trans h7.2.2⟩
    · rw [List.getElem?_append_right (by omega)] at hj
      have hj2 : j = y.us.length := by
        have := (List.getElem?_eq_some_iff.1 hj).1
        simp at this; omega
      rw [hj2] at hj
      simp at hj
      subst hj
      have g1 := hge x.ub (.inl rfl)
      have g2 := hge x.un.pb (.inr (.inl rfl))
      have g3 := hge x.un.ch (.inr (.inr rfl))
      refine ⟨?_, ?_, ?_⟩
      · show (if _ < B then _ else _) = _
        rw [if_neg (by omega), if_pos rfl, hj2]
      · show (if _ < B then _ else _) = _
        rw [if_neg (by omega), if_neg (fun e => hne.1 e.symm), if_pos rfl, hj2]
      · show (if _ < B then _ else _) = _
        rw [if_neg (by omega), if_neg (fun e => hne.2.1 e.symm), if_neg (fun e => hne.2.2 e.symm), if_pos rfl, hj2]
end Go.Proofs.Ytimdaceidhdaeaa

namespace Go.Proofs.Ytimdaceidhdaeaa
open Go.RowKit Go.Proofs
theorem build_unit (w : World) (pb ch : Nat) : (Instr.build 83 #[(0, .pointer (some ⟨pb, 0, none⟩)), (3, .chan (some ch))]).run Try.prog w = .ok (.agg (Un.cells ⟨pb, Po.zero, 0, ch⟩).toArray) w := by kernel_rfl
theorem bytes86 : ∃ i, Try.prog.info? 86 = some i ∧ i.bytes = 2728 := by
  have h : (Try.prog.info? 86).map (·.bytes) = some 2728 := by kernel_rfl
  obtain ⟨i, hi, hb⟩ := Option.map_eq_some_iff.1 h
  exact ⟨i, hi, hb⟩
theorem mk_in (w : World) : (Instr.makeChan 81 (.int .i64 1)).run Try.prog w = .ok (.chan (some w.heap.size)) (w.alloc (.chan 1 #[] false 0 0 false)) := by
  obtain ⟨i, hi, hb⟩ := bytes86
  simpa using Conc.run_makeChan (P := Try.prog) (w := w) Try.underlying81 hi .i64 1 (by omega) (by rw [hb]; omega)
structure STr (W : World) : Prop where
  tr : True
/-- New, on its way: so many units. -/
structure NeE (w : World) (p : Po) (u k yb : Nat) (y : YS) (W : World) : Prop where
  at1 : YAt W y
  yb : y.yb = yb
  h : y.h = ⟨p, [], List.replicate u (0, -1), En.zero, false⟩
  us : y.us.map Us.abs = List.replicate k ⟨0, .none⟩
  way : y.way = []
  below : Below w.heap.size w W
  ge : ∀ k, y.mem k → w.heap.size ≤ k
theorem NeE.len {w W : World} {p : Po} {u k yb : Nat} {y : YS} (h : NeE w p u k yb y W) : y.us.length = k := by
  have := congrArg List.length h.us
  simpa using this
set_option maxRecDepth 10000 in
theorem NeE.start {w w2 : World} {p : Po} {u hb mb cb : Nat} (hB : Below w.heap.size w w2) (hh : HeadAt w2 hb mb cb ⟨p, [], List.replicate u (0, -1), En.zero, false⟩) (hge : w.heap.size ≤ hb ∧ w.heap.size ≤ mb ∧ w.heap.size ≤ cb) (hne : hb ≠ mb ∧ hb ≠ cb ∧ cb ≠ mb) :
    NeE w p u 0 w2.heap.size ⟨w2.heap.size, hb, mb, cb, ⟨p, [], List.replicate u (0, -1), En.zero, false⟩, [], .slice none 0 0, .slice none 0 0, [], fun k => if k = w2.heap.size then 0 else if k = hb then 1 else if k = mb then 2 else 3⟩
      (w2.alloc (.cells #[.pointer (some ⟨hb, 0, none⟩), .slice none 0 0, .slice none 0 0] 76)) := by
  have hl := hh.lts
  have hs := hB.size
  refine ⟨{ row := heap_alloc_new w2 _, head := hh.below ((Below.refl _ _).alloc (Nat.le_refl _) _), un := fun x hx => by simp at hx, ur := ⟨rfl, .inl ⟨rfl, rfl⟩⟩, wr := ⟨rfl, .inl ⟨rfl, rfl⟩⟩, wok := fun n hn => by simp at hn, r0 := if_pos rfl, r1 := ?_, r2 := ?_, r3 := ?_, r4 := fun k hk => by simp [Value.ownBlock] at hk, r5 := fun k hk => by simp [Value.ownBlock] at hk, r6 := fun i x hi => by simp at hi }, rfl, rfl, rfl, rfl, hB.alloc hs _, ?_⟩
  · show (if hb = _ then 0 else _) = 1
    rw [if_neg (by omega), if_pos rfl]
  · show (if mb = _ then 0 else _) = 2
    rw [if_neg (by omega), if_neg (fun e => hne.1 e.symm), if_pos rfl]
  · show (if cb = _ then 0 else _) = 3
    rw [if_neg (by omega), if_neg (fun e => hne.2.1 e.symm), if_neg hne.2.2]
  · rintro k (rfl | rfl | rfl | rfl | hk | hk | ⟨x, hx, _⟩)
    · exact hs
    · exact hge.1
    · exact hge.2.1
    · exact hge.2.2
    · simp [Value.ownBlock] at hk
    · simp [Value.ownBlock] at hk
    · simp at hx
/-- One unit more is laid. -/
theorem NeE.more {w W W4 W5 : World} {p : Po} {u k yb : Nat} {y : YS} (h : NeE w p u k yb y W) (hW : Below W.heap.size W W4) (ub pb ch : Nat) (hx : UnB W4 ⟨ub, ⟨pb, Po.zero, 0, ch⟩, Pl.zero⟩ []) (hge : W.heap.size ≤ ub ∧ W.heap.size ≤ pb ∧ W.heap.size ≤ ch) (v' : Value)
    (hk : Kp (fun k => k = y.yb ∨ y.uv.ownBlock = some k) W4 W5) (hrow : W5.heap[y.yb]? = some (.cells ((ycells y.hb y.uv y.wv).setIfInBounds 1 v') 76 (0, 0)))
    (hv : W5.ownsRow 0 78 1 v' ((y.us.map Us.ub).length + 1) ((y.us.map Us.ub ++ [ub]).map uptr)) (hown : ∀ k, v'.ownBlock = some k → y.uv.ownBlock = some k ∨ W4.heap.size ≤ k) : ∃ y', NeE w p u (k + 1) yb y' W5 := by
  have h4 : YAt W4 y := h.at1.kept (fun k hk => hW.block k (h.at1.lt k hk))
  have hws := hW.size
  rw [List.length_map] at hv
  have hA := h4.addUnit W.heap.size h.at1.lt _ hx (fun k hk => by rcases hk with rfl | rfl | rfl; exact hge.1; exact hge.2.1; exact hge.2.2) v' hk hrow hv hown
  have hwW := h.below.size
  refine ⟨_, hA, h.yb, h.h, ?_, h.way, ?_, ?_⟩
  · show (y.us ++ [_]).map Us.abs = _
    rw [List.map_append, h.us, List.replicate_succ']; rfl
  · refine (h.below.trans (hW.mono hwW)).trans ⟨hk.os, hk.tape, hk.output, hk.size, fun j hj => hk.block j (by omega) (fun e => ?_)⟩
    rcases e with e | e
    · have := h.ge j (by rw [e]; exact .inl rfl); omega
    · have := h.ge j (.inr (.inr (.inr (.inr (.inl e))))); omega
  · rintro j (rfl | rfl | rfl | rfl | hj | hj | ⟨x, hx2, hj⟩)
    · exact h.ge _ (.inl rfl)
    · exact h.ge _ (.inr (.inl rfl))
    · exact h.ge _ (.inr (.inr (.inl rfl)))
    · exact h.ge _ (.inr (.inr (.inr (.inl rfl))))
    · rcases hown j hj with e | e
      · exact h.ge _ (.inr (.inr (.inr (.inr (.inl e)))))
      · omega
    · exact h.ge _ (.inr (.inr (.inr (.inr (.inr (.inl hj))))))
    · rcases List.mem_append.1 hx2 with e | e
      · exact h.ge _ (.inr (.inr (.inr (.inr (.inr (.inr ⟨x, e, hj⟩))))))
      · simp at e
        rw [e] at hj
        rcases hj with rfl | rfl | rfl
        · have := hge.1; exact Nat.le_trans hwW this
        · have := hge.2.1; exact Nat.le_trans hwW this
        · have := hge.2.2; exact Nat.le_trans hwW this
set_option maxHeartbeats 2000000 in
set_option maxRecDepth 100000 in
theorem yard_New (p : Po) (u : Nat) (w : World) (hp : p.ok) (h1 : 1 ≤ u) (h2 : u ≤ 16) :
    Calls Try.prog 12 #[p.v, .int .i64 u] w fun r w' => ∃ y : YS, r = .returned (.tuple #[.pointer (some ⟨y.yb, 0, none⟩), I 0]) ∧ YAt w' y ∧ y.abs = Ya.new p u ∧ Below w.heap.size w w' ∧ ∀ k, y.mem k → w.heap.size ≤ k := by
  have HI := Bx.mk (And.intro hp (size33 p hp))
  have hR : SNw w.heap.size p (w.alloc (.cells p.cells.toArray 33)) := ⟨heap_alloc_new w _⟩
  have hB : Below w.heap.size w (w.alloc (.cells p.cells.toArray 33)) := (Below.refl _ _).alloc (Nat.le_refl _) _
  have HB := Bx.mk hB
  have HRg := Bx.mk (pool_range hR.row)
  have HN := Bx.mk (head_New p u (w.alloc (.cells p.cells.toArray 33)) hp h1 h2)
  clear hp hB hR
  unfold Po.v at HN
  unfold Po.v
  go_enter Try.func12, Try.ntmps12
  go_upto_region 1 with (fail)
  generalize w.alloc (.cells p.cells.toArray 33) = w1 at HB HRg HN ⊢
  go_wp2_with (first
    | (refine wpList_load_mid rfl 33 _ rfl w.heap.size 0 rfl p.cells _ HRg.out Try.underlying33 rfl HI.out.2 ?_)
    | (go_at_call 32; refine HN.out.mono ?_; rintro r w2 ⟨hb, mb, cb, rfl, hh, hB2, hge, hne⟩; have HE := Bx.mk (And.intro hh (And.intro hB2 (And.intro hge hne))); clear hh hB2 hge hne))
  have hE0 := NeE.start (HB.out.trans (HE.out.2.1.mono HB.out.size)) HE.out.1 (by have := HB.out.size; have := HE.out.2.2.1; omega) HE.out.2.2.2
  clear HE HN HRg HB
  generalize w2.alloc (.cells #[.pointer (some ⟨hb, 0, none⟩), .slice none 0 0, .slice none 0 0] 76) = w3 at hE0 ⊢
  generalize w2.heap.size = yb at hE0 ⊢
  go_loopg [22] u (fun n i wr => ∃ (k : Nat) (y : YS), n + k = u ∧ i = .int .i64 k ∧ NeE w p u k yb y wr)
  case atStart => exact ⟨0, _, rfl, rfl, hE0⟩
  case round =>
    obtain ⟨k, y, hk, rfl, hE⟩ := hrel
    clear hE0
    by_cases hlt : k < u
    · have d1 : decide (k < u) = true := decide_eq_true hlt
      have HE := Bx.mk hE
      clear hE
      go_upto_region 7 with (fail)
      refine wp_region_noPanic ?_
      refine wp_region_held_drew (S := STr) (by kernel_rfl) ⟨trivial⟩ ?_
      intro hS
      have HE2 : Bx (NeE w p u k yb y wr.drew) := ⟨⟨HE.out.at1.kept (fun _ _ => rfl), HE.out.yb, HE.out.h, HE.out.us, HE.out.way, HE.out.below.drew, HE.out.ge⟩⟩
      clear HE
      generalize wr.drew = X at hS HE2 ⊢
      refine wpAnyH_take (i := 0) (v := ?_) rfl (by kernel_rfl) (by kernel_rfl) (by kernel_rfl) (fun _ _ _ h => h) (Or.inl ⟨by rfl, ?_⟩) (by assumption) ?_
      rotate_left
      · intro W1 h1; clear h1; go_simp; first | done | with_reducible rfl
      simp only [List.getElem_toArray, List.getElem_cons_succ, List.getElem_cons_zero, Act.put, List.setIfInBounds_toArray, List.set_cons_zero, List.set_cons_succ]
      refine wpAnyH_take (i := 1) (v := ?_) rfl (by kernel_rfl) (by kernel_rfl) (by kernel_rfl) (fun _ _ _ h => h) (Or.inl ⟨by rfl, ?_⟩) (by assumption) ?_
      rotate_left
      · intro W1 h1; clear h1; go_simp; first | done | with_reducible rfl
      simp only [List.getElem_toArray, List.getElem_cons_succ, List.getElem_cons_zero, Act.put, List.setIfInBounds_toArray, List.set_cons_zero, List.set_cons_succ]
      refine wpAnyH_take (i := 2) (v := ?_) rfl (by kernel_rfl) (by kernel_rfl) (by kernel_rfl) (fun _ _ _ h => h) (Or.inl ⟨by rfl, ?_⟩) (by assumption) ?_
      rotate_left
      · intro W1 h1; clear h1; go_simp; first | done | with_reducible rfl
      simp only [List.getElem_toArray, List.getElem_cons_succ, List.getElem_cons_zero, Act.put, List.setIfInBounds_toArray, List.set_cons_zero, List.set_cons_succ]
      have hmc := mk_in
      refine wpAnyH_ready (rs := [3, 4]) (by kernel_rfl) (by simp) ?_
      refine AllReadyH.cons rfl (fun K hK => ?_) (AllReadyH.cons rfl (fun K hK => ?_) AllReadyH.nil)
      · clear hS
        go_simp
        refine (plane_New X).mono ?_
        rintro e W ⟨rfl, rfl⟩
        refine hK.out _ _ ⟨trivial⟩ (fun hS => ?_)
        clear hK K
        try simp only [List.getElem_toArray, List.getElem_cons_succ, List.getElem_cons_zero, Act.put, List.setIfInBounds_toArray, List.set_cons_zero, List.set_cons_succ]
        refine wpAnyH_ready (rs := [4]) (by kernel_rfl) (by simp) ?_
        refine AllReadyH.cons rfl (fun K hK => ?_) AllReadyH.nil
        go_simp
        refine hK.out _ _ ⟨trivial⟩ (fun hS => ?_)
        clear hK K
        refine wpAnyH_take (i := 5) (v := .agg (Un.cells ⟨X.heap.size, Po.zero, 0, (X.heap.size + 1)⟩).toArray) rfl (by kernel_rfl) (by kernel_rfl) (by kernel_rfl) (fun _ _ _ h => h) (Or.inl ⟨by rfl, fun W1 _ => exec_build _ _ rfl #[(0, .pointer (some ⟨X.heap.size, 0, none⟩)), (3, .chan (some ((X.heap.size + 1))))] (by simp [Act.eval, Act.put]) _ (build_unit W1 _ _)⟩) (by assumption) ?_
        try simp only [List.getElem_toArray, List.getElem_cons_succ, List.getElem_cons_zero, Act.put, List.setIfInBounds_toArray, List.set_cons_zero, List.set_cons_succ]
        refine wpAnyH_ready (rs := [6]) (by kernel_rfl) (by simp) ?_
        refine AllReadyH.cons rfl (fun K hK => ?_) AllReadyH.nil
        clear hS
        go_simp
        refine hK.out _ _ ⟨trivial⟩ (fun hS => ?_)
        clear hK K
        refine wpAnyH_ready (rs := [7]) (by kernel_rfl) (by simp) ?_
        refine AllReadyH.cons rfl (fun K hK => ?_) AllReadyH.nil
        clear hS
        go_simp
        have b0 := HE2.out.below.size
        have hBW : Below X.heap.size X ((((X.alloc (.cells Pl.zero.cells.toArray 131)).alloc (.chan 1 #[] false 0 0 false)).alloc (.cells (Un.cells ⟨X.heap.size, Po.zero, 0, (X.heap.size + 1)⟩).toArray 83)).alloc (.cells #[.pointer (some ⟨X.heap.size + 1 + 1, 0, none⟩)] 78)) :=
          ((((Below.refl _ _).alloc (Nat.le_refl _) _).alloc (by simp) _).alloc (by simp <;> omega) _).alloc (by simp <;> omega) _
        have a0 : ((((X.alloc (.cells Pl.zero.cells.toArray 131)).alloc (.chan 1 #[] false 0 0 false)).alloc (.cells (Un.cells ⟨X.heap.size, Po.zero, 0, (X.heap.size + 1)⟩).toArray 83)).alloc (.cells #[.pointer (some ⟨X.heap.size + 1 + 1, 0, none⟩)] 78)).heap[X.heap.size]? = some (.cells Pl.zero.cells.toArray 131) := heap_old_at (by simp <;> omega) (heap_old_at (by simp <;> omega) (heap_old_at (by simp) (heap_new_at rfl)))
        have a1 : ((((X.alloc (.cells Pl.zero.cells.toArray 131)).alloc (.chan 1 #[] false 0 0 false)).alloc (.cells (Un.cells ⟨X.heap.size, Po.zero, 0, (X.heap.size + 1)⟩).toArray 83)).alloc (.cells #[.pointer (some ⟨X.heap.size + 1 + 1, 0, none⟩)] 78)).heap[X.heap.size + 1]? = some (.chan 1 #[] false 0 0 false) := heap_old_at (by simp <;> omega) (heap_old_at (by simp) (heap_new_at (by simp)))
        have a2 : ((((X.alloc (.cells Pl.zero.cells.toArray 131)).alloc (.chan 1 #[] false 0 0 false)).alloc (.cells (Un.cells ⟨X.heap.size, Po.zero, 0, (X.heap.size + 1)⟩).toArray 83)).alloc (.cells #[.pointer (some ⟨X.heap.size + 1 + 1, 0, none⟩)] 78)).heap[X.heap.size + 1 + 1]? = some (.cells (Un.cells ⟨X.heap.size, Po.zero, 0, (X.heap.size + 1)⟩).toArray 83 (0, 0)) := heap_old_at (by simp) (heap_new_at (by simp))
        have a3 : ((((X.alloc (.cells Pl.zero.cells.toArray 131)).alloc (.chan 1 #[] false 0 0 false)).alloc (.cells (Un.cells ⟨X.heap.size, Po.zero, 0, (X.heap.size + 1)⟩).toArray 83)).alloc (.cells #[.pointer (some ⟨X.heap.size + 1 + 1, 0, none⟩)] 78)).heap[X.heap.size + 1 + 1 + 1]? = some (.cells #[.pointer (some ⟨X.heap.size + 1 + 1, 0, none⟩)] 78 (0, 0)) := heap_new_at (by simp)
        have hU : UnB ((((X.alloc (.cells Pl.zero.cells.toArray 131)).alloc (.chan 1 #[] false 0 0 false)).alloc (.cells (Un.cells ⟨X.heap.size, Po.zero, 0, (X.heap.size + 1)⟩).toArray 83)).alloc (.cells #[.pointer (some ⟨X.heap.size + 1 + 1, 0, none⟩)] 78)) ⟨X.heap.size + 1 + 1, ⟨X.heap.size, Po.zero, 0, (X.heap.size + 1)⟩, Pl.zero⟩ [] := by
          refine ⟨a2, ?_, ⟨0, 0, ?_⟩, Pl.zero_ok, Po.zero_ok, fun e => by simp [Pl.zero] at e, fun _ => rfl, ?_⟩
          · first | exact a0 | exact a1
          · first | exact a0 | exact a1
          · refine ⟨?_, ?_, ?_⟩ <;> (simp only [ne_eq]; omega)
        refine hK.out _ _ ⟨trivial⟩ (fun hS => ?_)
        clear hK K hmc a0 a1 a2
        generalize (((X.alloc (.cells Pl.zero.cells.toArray 131)).alloc (.chan 1 #[] false 0 0 false)).alloc (.cells (Un.cells ⟨X.heap.size, Po.zero, 0, (X.heap.size + 1)⟩).toArray 83)).alloc (.cells #[.pointer (some ⟨X.heap.size + 1 + 1, 0, none⟩)] 78) = W4 at hBW a3 hU ⊢
        generalize (Un.cells ⟨X.heap.size, Po.zero, 0, (X.heap.size + 1)⟩).toArray = ua
        have hy4 : YAt W4 y := HE2.out.at1.kept (fun k hk => hBW.block k (HE2.out.at1.lt k hk))
        have hP := units_put y.yb 1 y.uv (y.us.map Us.ub) (X.heap.size + 1 + 1 + 1) (X.heap.size + 1 + 1) W4 hy4.c1 (hy4.fz 1) (by rw [List.length_map]; exact hy4.ur) (fun e => by have h4 := hy4.r4 _ e; have h0 := hy4.r0; omega) (by rw [cell_of_row _ _ _ _ _ _ a3]; rfl) (by rw [List.length_map, HE2.out.len]; omega)
        rw [HE2.out.yb] at hP
        have HP := Bx.mk hP
        have HQ := Bx.mk (And.intro hBW (And.intro hU hy4))
        clear hP hBW hU hy4 a3 hS
        refine wpAnyH_ready (rs := [8]) (by kernel_rfl) (by simp) ?_
        refine AllReadyH.cons rfl (fun K hK => ?_) AllReadyH.nil
        go_simp
        refine HP.out.mono ?_
        rintro e W5 ⟨rfl, v', _, hv, hkk, hown, hrow⟩
        obtain ⟨y', hE'⟩ := HE2.out.more HQ.out.1 (X.heap.size + 1 + 1) (X.heap.size) ((X.heap.size + 1)) HQ.out.2.1 ⟨by omega, by omega, by omega⟩ v' (by rw [HE2.out.yb]; exact hkk) (by rw [HE2.out.yb]; exact hrow _ _ (by rw [← HE2.out.yb]; exact HQ.out.2.2.row)) hv hown
        refine hK.out _ _ ⟨trivial⟩ (fun _ => ?_)
        have HF := Bx.mk hE'
        clear hK K hE' hv hkk hown hrow HP HQ b0
        refine wpAnyH_done (by kernel_rfl) ?_ _
        refine NoPanic.normal ?_
        go_wp2_with fail
        go_roundg (u - (k + 1))
        case measure => omega
        case rel => exact ⟨k + 1, y', by omega, by go_num, HF.out⟩
      · go_simp
        refine hK.out _ _ ⟨trivial⟩ (fun hS => ?_)
        clear hK K
        refine wpAnyH_ready (rs := [3]) (by kernel_rfl) (by simp) ?_
        refine AllReadyH.cons rfl (fun K hK => ?_) AllReadyH.nil
        clear hS
        go_simp
        refine (plane_New (X.alloc (.chan 1 #[] false 0 0 false))).mono ?_
        rintro e W ⟨rfl, rfl⟩
        refine hK.out _ _ ⟨trivial⟩ (fun hS => ?_)
        clear hK K
        try simp only [List.getElem_toArray, List.getElem_cons_succ, List.getElem_cons_zero, Act.put, List.setIfInBounds_toArray, List.set_cons_zero, List.set_cons_succ]
        refine wpAnyH_take (i := 5) (v := .agg (Un.cells ⟨(X.heap.size + 1), Po.zero, 0, X.heap.size⟩).toArray) rfl (by kernel_rfl) (by kernel_rfl) (by kernel_rfl) (fun _ _ _ h => h) (Or.inl ⟨by rfl, fun W1 _ => exec_build _ _ rfl #[(0, .pointer (some ⟨(X.heap.size + 1), 0, none⟩)), (3, .chan (some (X.heap.size)))] (by simp [Act.eval, Act.put]) _ (build_unit W1 _ _)⟩) (by assumption) ?_
        try simp only [List.getElem_toArray, List.getElem_cons_succ, List.getElem_cons_zero, Act.put, List.setIfInBounds_toArray, List.set_cons_zero, List.set_cons_succ]
        refine wpAnyH_ready (rs := [6]) (by kernel_rfl) (by simp) ?_
        refine AllReadyH.cons rfl (fun K hK => ?_) AllReadyH.nil
        clear hS
        go_simp
        refine hK.out _ _ ⟨trivial⟩ (fun hS => ?_)
        clear hK K
        refine wpAnyH_ready (rs := [7]) (by kernel_rfl) (by simp) ?_
        refine AllReadyH.cons rfl (fun K hK => ?_) AllReadyH.nil
        clear hS
        go_simp
        have b0 := HE2.out.below.size
        have hBW : Below X.heap.size X ((((X.alloc (.chan 1 #[] false 0 0 false)).alloc (.cells Pl.zero.cells.toArray 131)).alloc (.cells (Un.cells ⟨(X.heap.size + 1), Po.zero, 0, X.heap.size⟩).toArray 83)).alloc (.cells #[.pointer (some ⟨X.heap.size + 1 + 1, 0, none⟩)] 78)) :=
          ((((Below.refl _ _).alloc (Nat.le_refl _) _).alloc (by simp) _).alloc (by simp <;> omega) _).alloc (by simp <;> omega) _
        have a0 : ((((X.alloc (.chan 1 #[] false 0 0 false)).alloc (.cells Pl.zero.cells.toArray 131)).alloc (.cells (Un.cells ⟨(X.heap.size + 1), Po.zero, 0, X.heap.size⟩).toArray 83)).alloc (.cells #[.pointer (some ⟨X.heap.size + 1 + 1, 0, none⟩)] 78)).heap[X.heap.size]? = some (.chan 1 #[] false 0 0 false) := heap_old_at (by simp <;> omega) (heap_old_at (by simp <;> omega) (heap_old_at (by simp) (heap_new_at rfl)))
        have a1 : ((((X.alloc (.chan 1 #[] false 0 0 false)).alloc (.cells Pl.zero.cells.toArray 131)).alloc (.cells (Un.cells ⟨(X.heap.size + 1), Po.zero, 0, X.heap.size⟩).toArray 83)).alloc (.cells #[.pointer (some ⟨X.heap.size + 1 + 1, 0, none⟩)] 78)).heap[X.heap.size + 1]? = some (.cells Pl.zero.cells.toArray 131) := heap_old_at (by simp <;> omega) (heap_old_at (by simp) (heap_new_at (by simp)))
        have a2 : ((((X.alloc (.chan 1 #[] false 0 0 false)).alloc (.cells Pl.zero.cells.toArray 131)).alloc (.cells (Un.cells ⟨(X.heap.size + 1), Po.zero, 0, X.heap.size⟩).toArray 83)).alloc (.cells #[.pointer (some ⟨X.heap.size + 1 + 1, 0, none⟩)] 78)).heap[X.heap.size + 1 + 1]? = some (.cells (Un.cells ⟨(X.heap.size + 1), Po.zero, 0, X.heap.size⟩).toArray 83 (0, 0)) := heap_old_at (by simp) (heap_new_at (by simp))
        have a3 : ((((X.alloc (.chan 1 #[] false 0 0 false)).alloc (.cells Pl.zero.cells.toArray 131)).alloc (.cells (Un.cells ⟨(X.heap.size + 1), Po.zero, 0, X.heap.size⟩).toArray 83)).alloc (.cells #[.pointer (some ⟨X.heap.size + 1 + 1, 0, none⟩)] 78)).heap[X.heap.size + 1 + 1 + 1]? = some (.cells #[.pointer (some ⟨X.heap.size + 1 + 1, 0, none⟩)] 78 (0, 0)) := heap_new_at (by simp)
        have hU : UnB ((((X.alloc (.chan 1 #[] false 0 0 false)).alloc (.cells Pl.zero.cells.toArray 131)).alloc (.cells (Un.cells ⟨(X.heap.size + 1), Po.zero, 0, X.heap.size⟩).toArray 83)).alloc (.cells #[.pointer (some ⟨X.heap.size + 1 + 1, 0, none⟩)] 78)) ⟨X.heap.size + 1 + 1, ⟨(X.heap.size + 1), Po.zero, 0, X.heap.size⟩, Pl.zero⟩ [] := by
          refine ⟨a2, ?_, ⟨0, 0, ?_⟩, Pl.zero_ok, Po.zero_ok, fun e => by simp [Pl.zero] at e, fun _ => rfl, ?_⟩
          · first | exact a0 | exact a1
          · first | exact a0 | exact a1
          · refine ⟨?_, ?_, ?_⟩ <;> (simp only [ne_eq]; omega)
        refine hK.out _ _ ⟨trivial⟩ (fun hS => ?_)
        clear hK K hmc a0 a1 a2
        generalize (((X.alloc (.chan 1 #[] false 0 0 false)).alloc (.cells Pl.zero.cells.toArray 131)).alloc (.cells (Un.cells ⟨(X.heap.size + 1), Po.zero, 0, X.heap.size⟩).toArray 83)).alloc (.cells #[.pointer (some ⟨X.heap.size + 1 + 1, 0, none⟩)] 78) = W4 at hBW a3 hU ⊢
        generalize (Un.cells ⟨(X.heap.size + 1), Po.zero, 0, X.heap.size⟩).toArray = ua
        have hy4 : YAt W4 y := HE2.out.at1.kept (fun k hk => hBW.block k (HE2.out.at1.lt k hk))
        have hP := units_put y.yb 1 y.uv (y.us.map Us.ub) (X.heap.size + 1 + 1 + 1) (X.heap.size + 1 + 1) W4 hy4.c1 (hy4.fz 1) (by rw [List.length_map]; exact hy4.ur) (fun e => by have h4 := hy4.r4 _ e; have h0 := hy4.r0; omega) (by rw [cell_of_row _ _ _ _ _ _ a3]; rfl) (by rw [List.length_map, HE2.out.len]; omega)
        rw [HE2.out.yb] at hP
        have HP := Bx.mk hP
        have HQ := Bx.mk (And.intro hBW (And.intro hU hy4))
        clear hP hBW hU hy4 a3 hS
        refine wpAnyH_ready (rs := [8]) (by kernel_rfl) (by simp) ?_
        refine AllReadyH.cons rfl (fun K hK => ?_) AllReadyH.nil
        go_simp
        refine HP.out.mono ?_
        rintro e W5 ⟨rfl, v', _, hv, hkk, hown, hrow⟩
        obtain ⟨y', hE'⟩ := HE2.out.more HQ.out.1 (X.heap.size + 1 + 1) ((X.heap.size + 1)) (X.heap.size) HQ.out.2.1 ⟨by omega, by omega, by omega⟩ v' (by rw [HE2.out.yb]; exact hkk) (by rw [HE2.out.yb]; exact hrow _ _ (by rw [← HE2.out.yb]; exact HQ.out.2.2.row)) hv hown
        refine hK.out _ _ ⟨trivial⟩ (fun _ => ?_)
        have HF := Bx.mk hE'
        clear hK K hE' hv hkk hown hrow HP HQ b0
        refine wpAnyH_done (by kernel_rfl) ?_ _
        refine NoPanic.normal ?_
        go_wp2_with fail
        go_roundg (u - (k + 1))
        case measure => omega
        case rel => exact ⟨k + 1, y', by omega, by go_num, HF.out⟩
    · have hku : k = u := by omega
      have HK := Bx.mk hku
      have HE := Bx.mk hE
      clear hku hE
      go_wp2_with fail
      refine bodyPost_ret (results_tmp2 rfl _ _ _) rfl ⟨y, by rw [HE.out.yb]; rfl, HE.out.at1, ?_, HE.out.below, HE.out.ge⟩
      unfold YS.abs Ya.new
      rw [HE.out.h, HE.out.us, HE.out.way, HK.out]
end Go.Proofs.Ytimdaceidhdaeaa

namespace Go.Proofs.Ytimdaceidhdaeaa
open Go.RowKit Go.Proofs
theorem eq_same_struct {P : Program} (w : World) (d : Nat) (t : TypeId) (xs : Array Value) (fs : Array Field) (ht : P.underlying t = some (.struct fs)) (hp : P.stoodInHeld t = false)
    (h : ∀ f ∈ fs.toList, ∃ a, (Go.part f.type xs f.offset).run P w = .ok a w ∧ (Op.equalIn d f.type a a).run P w = .ok true w) : (Op.equalIn (d + 1) t (.agg xs) (.agg xs)).run P w = .ok true w := by
  have hf : P.fieldsOf t = fs := by simp [Program.fieldsOf, ht]
  rw [run_equalIn_struct w d t xs xs (by rw [hf]; exact ht) hp, hf]
  generalize fs.toList = l at h
  clear ht hp hf
  induction l with
  | nil => simp [Op.eqFields]
  | cons f l ih =>
    obtain ⟨a, h1, h2⟩ := h f (List.mem_cons_self ..)
    have ih' := ih (fun g hg => h g (List.mem_cons_of_mem _ hg))
    simp only [Op.eqFields]
    split
    · simp only [Sem.run_bind, h1, h2, Result.andThen_ok]
      simpa using ih'
    · exact ih'
theorem eq_same_int {P : Program} (w : World) (d : Nat) (t : TypeId) (k : IntKind) (xs : Array Value) (off : Nat) (v : Int) (ht : P.underlying t = some (.int k)) (hv : xs[off]? = some (.int k v)) :
    ∃ a, (Go.part t xs off).run P w = .ok a w ∧ (Op.equalIn (d + 1) t a a).run P w = .ok true w :=
  ⟨_, part_int w t k xs off _ ht hv, by rw [run_equalIn_int w d t k k v v ht]; simp⟩
set_option maxRecDepth 100000 in
theorem eq_key (w : World) (d : Nat) (k : Ke) : (Op.equalIn (d + 2) 29 (.agg #[U k.a, U k.b]) (.agg #[U k.a, U k.b])).run Try.prog w = .ok true w := by
  refine eq_same_struct w (d + 1) _ _ _ Try.underlying29 (by kernel_rfl) ?_
  intro f hf
  simp only [List.mem_cons, List.not_mem_nil, or_false] at hf
  rcases hf with rfl | rfl
  · exact eq_same_int w d _ .u64 _ _ k.a Try.underlying27 rfl
  · exact eq_same_int w d _ .u64 _ _ k.b Try.underlying27 rfl
set_option maxRecDepth 100000 in
theorem eq_ring (w : World) (d : Nat) (e : Int) (k0 k1 k2 : Ke) : (Op.equalIn (d + 3) 31 (.agg (Ring.cells e k0 k1 k2).toArray) (.agg (Ring.cells e k0 k1 k2).toArray)).run Try.prog w = .ok true w := by
  have hk := sizeOf_info (P := Try.prog) w 29 2 (by kernel_rfl)
  refine eq_same_struct w (d + 2) _ _ _ Try.underlying31 (by kernel_rfl) ?_
  intro f hf
  simp only [List.mem_cons, List.not_mem_nil, or_false] at hf
  rcases hf with rfl | rfl | rfl | rfl
  · exact eq_same_int w (d + 1) _ .i64 _ _ e Try.underlying3 rfl
  · exact ⟨_, part_agg w _ _ _ 2 _ Try.underlying29 rfl hk, eq_key w d k0⟩
  · exact ⟨_, part_agg w _ _ _ 2 _ Try.underlying29 rfl hk, eq_key w d k1⟩
  · exact ⟨_, part_agg w _ _ _ 2 _ Try.underlying29 rfl hk, eq_key w d k2⟩
set_option maxRecDepth 100000 in
theorem eq_slot (w : World) (d : Nat) (s : Sl) : (Op.equalIn (d + 2) 25 (.agg s.cells.toArray) (.agg s.cells.toArray)).run Try.prog w = .ok true w := by
  refine eq_same_struct w (d + 1) _ _ _ Try.underlying25 (by kernel_rfl) ?_
  intro f hf
  simp only [List.mem_cons, List.not_mem_nil, or_false] at hf
  rcases hf with rfl | rfl | rfl | rfl | rfl
  · exact eq_same_int w d _ .i64 _ _ s.st Try.underlying3 rfl
  · exact eq_same_int w d _ .i64 _ _ s.ad Try.underlying3 rfl
  · exact eq_same_int w d _ .i64 _ _ s.po Try.underlying3 rfl
  · exact eq_same_int w d _ .i64 _ _ s.we Try.underlying3 rfl
  · exact eq_same_int w d _ .i64 _ _ s.si Try.underlying3 rfl
set_option maxRecDepth 100000 in
theorem eq_slots (w : World) (d : Nat) (l : List Sl) (hl : l.length = 64) : (Op.equalIn (d + 3) 26 (.agg (slots l).toArray) (.agg (slots l).toArray)).run Try.prog w = .ok true w := by
  have hs := sizeOf_info (P := Try.prog) w 25 5 (by kernel_rfl)
  rw [run_equalIn_array w (d + 2) _ _ _ 64 25 5 (fun _ => true) Try.underlying26 hs]
  · simp
  · intro i hi
    have hp := part_agg (P := Try.prog) w 25 (slots l).toArray (i * 5) 5 _ Try.underlying25 rfl hs
    rw [slots_extract l i (by omega)] at hp
    show Sem.run _ (Go.part _ _ _ >>= fun x => Go.part _ _ _ >>= fun y => Op.equalIn _ _ x y) w = _
    rw [Sem.run_bind, hp, Result.andThen_ok, Sem.run_bind, hp, Result.andThen_ok]
    exact eq_slot w d _
set_option maxRecDepth 100000 in
theorem eq_pool (w : World) (p : Po) (hp : p.ok) : (Op.equalIn 10000 33 (.agg p.cells.toArray) (.agg p.cells.toArray)).run Try.prog w = .ok true w := by
  have hs := sizeOf_info (P := Try.prog) w 26 320 (by kernel_rfl)
  have hr := sizeOf_info (P := Try.prog) w 31 7 (by kernel_rfl)
  have hsl : p.cells.toArray.extract 3 (3 + 320) = (slots p.sl).toArray := by
    have : p.cells = [I p.ver, I p.ad, I p.po] ++ (slots p.sl ++ Ring.cells p.ep p.k0 p.k1 p.k2) := by simp [Po.cells]
    rw [this, List.extract_toArray]
    congr 1
    have hl : (slots p.sl).length = 320 := by rw [slots_len, hp.len]
    simp [List.extract, hl]
  have hrg : p.cells.toArray.extract 323 (323 + 7) = (Ring.cells p.ep p.k0 p.k1 p.k2).toArray := by
    have hl : ([I p.ver, I p.ad, I p.po] ++ slots p.sl).length = 323 := by simp [slots_len, hp.len]
    rw [Po.cells, List.extract_toArray]
    congr 1
    simp only [List.extract]
    rw [List.drop_left' hl]
    rfl
  refine eq_same_struct w 9999 _ _ _ Try.underlying33 (by kernel_rfl) ?_
  intro f hf
  simp only [List.mem_cons, List.not_mem_nil, or_false] at hf
  rcases hf with rfl | rfl | rfl | rfl | rfl
  · exact eq_same_int w 9998 _ .i64 _ _ p.ver Try.underlying3 (by rw [List.getElem?_toArray]; exact p.at_ver)
  · exact eq_same_int w 9998 _ .i64 _ _ p.ad Try.underlying3 (by rw [List.getElem?_toArray]; exact p.at_ad)
  · exact eq_same_int w 9998 _ .i64 _ _ p.po Try.underlying3 (by rw [List.getElem?_toArray]; exact p.at_po)
  · exact ⟨_, part_agg w _ _ _ 320 _ Try.underlying26 rfl hs, by rw [hsl]; exact eq_slots w 9996 p.sl hp.len⟩
  · exact ⟨_, part_agg w _ _ _ 7 _ Try.underlying31 rfl hr, by rw [hrg]; exact eq_ring w 9996 _ _ _ _⟩
set_option maxHeartbeats 1000000 in
set_option maxRecDepth 10000 in
theorem head_Pool (hb mb cb : Nat) (h : He) (w : World) (H : HeadAt w hb mb cb h) : Calls Try.prog 53 #[.pointer (some ⟨hb, 0, none⟩)] w fun r w' => r = .returned h.p.v ∧ Below w.heap.size w w' := by
  have hz := fun w => zero33 w
  have HA := heap_alloc_new w (.cells Po.zero.cells.toArray 33)
  have HB := Bx.mk (H.below ((Below.refl _ _).alloc (Nat.le_refl _) (.cells Po.zero.cells.toArray 33)))
  have HT := Bx.mk (there_of_block HA 0 h.p.cells.toArray.size (by rw [List.size_toArray, Po.cells_len _ H.ok, List.size_toArray, Po.cells_len _ Po.zero_ok]; decide))
  have HZ := Bx.mk (row_stored HA (vs := h.p.cells) (by rw [Po.cells_len _ H.ok, List.size_toArray, Po.cells_len _ Po.zero_ok]))
  have HI := Bx.mk (size33 _ H.ok)
  have HI2 := Bx.mk (size33s _ H.ok)
  have HO := Bx.mk (Po.one h.p)
  have HP := Bx.mk HB.out.pool
  clear HA H
  go_enter Try.func53, Try.ntmps53
  go_wp2_with (first
    | (refine wpList_load_mid rfl 33 _ rfl hb 0 rfl h.p.cells _ HP.out Try.underlying33 rfl HI.out ?_)
    | (refine wpList_store_mid rfl 33 _ _ rfl w.heap.size 0 _ rfl rfl HT.out HI2.out HO.out ?_))
  exact bodyPost_ret (results_cell Try.results53 _ _ w.heap.size _ _ rfl (pool_range HZ.out) Try.underlying33 rfl HI.out) rfl ⟨rfl, below_setCells ((Below.refl _ _).alloc (Nat.le_refl _) _) (Nat.le_refl _) _ _⟩
set_option maxHeartbeats 1000000 in
set_option maxRecDepth 10000 in
theorem yard_Pool (y : YS) (w : World) (H : YAt w y) : Calls Try.prog 26 #[.pointer (some ⟨y.yb, 0, none⟩)] w fun r w' => r = .returned y.h.p.v ∧ Below w.heap.size w w' := by
  have hz := fun w => zero33 w
  have hl := H.lt y.yb (.inl rfl)
  have c0 := H.c0
  have hB0 : Below w.heap.size w (w.alloc (.cells Po.zero.cells.toArray 33)) := (Below.refl _ _).alloc (Nat.le_refl _) _
  have HA := Bx.mk (heap_alloc_new w (.cells Po.zero.cells.toArray 33))
  have HP := Bx.mk (head_Pool y.hb y.mb y.cb y.h _ (H.head.below hB0))
  have hok := Bx.mk H.head.ok
  have HI := Bx.mk (size33 _ hok.out)
  have HI2 := Bx.mk (size33s _ hok.out)
  have HO := Bx.mk (Po.one y.h.p)
  clear H
  unfold Po.v at HP
  go_enter Try.func26, Try.ntmps26
  go_wp2_with (first
    | (go_at_call 53; refine HP.out.mono ?_; rintro r w2 ⟨rfl, hB⟩
       have HA2 := (hB.block w.heap.size (by simp)).trans HA.out
       have HT := Bx.mk (there_of_block HA2 0 y.h.p.cells.toArray.size (by rw [List.size_toArray, Po.cells_len _ hok.out, List.size_toArray, Po.cells_len _ Po.zero_ok]; decide))
       have HZ := Bx.mk (row_stored HA2 (vs := y.h.p.cells) (by rw [Po.cells_len _ hok.out, List.size_toArray, Po.cells_len _ Po.zero_ok]))
       have HB := Bx.mk (hB0.trans (hB.mono (by simp)))
       clear HA2 hB)
    | (refine wpList_store_mid rfl 33 _ _ rfl w.heap.size 0 _ rfl rfl HT.out HI2.out HO.out ?_))
  exact bodyPost_ret (results_cell Try.results26 _ _ w.heap.size _ _ rfl (pool_range HZ.out) Try.underlying33 rfl HI.out) rfl ⟨rfl, below_setCells HB.out (Nat.le_refl _) _ _⟩
end Go.Proofs.Ytimdaceidhdaeaa

namespace Go.Proofs.Ytimdaceidhdaeaa
open Go.RowKit Go.Proofs
/-- In a law: a yard of its own, of which so much is known; a block beside it that holds a pool. -/
structure LawY (w : World) (yb pb : Nat) (p : Po) (s : Ya) (W : World) (y : YS) : Prop where
  at1 : YAt W y
  yb : y.yb = yb
  abs : y.abs = s
  ge : ∀ k, y.mem k → w.heap.size ≤ k
  below : Below w.heap.size w W
  row : W.heap[pb]? = some (.cells p.cells.toArray 33 (0, 0))
  np : ¬ y.mem pb
def LawE (w : World) (yb pb : Nat) (p : Po) (s : Ya) (W : World) : Prop := ∃ y, LawY w yb pb p s W y
theorem LawE.row {w W : World} {yb pb : Nat} {p : Po} {s : Ya} (h : LawE w yb pb p s W) : W.heap[pb]? = some (.cells p.cells.toArray 33 (0, 0)) := by
  obtain ⟨y, hy⟩ := h
  exact hy.row
theorem LawE.below {w W : World} {yb pb : Nat} {p : Po} {s : Ya} (h : LawE w yb pb p s W) : Below w.heap.size w W := by
  obtain ⟨y, hy⟩ := h
  exact hy.below
theorem LawE.grow {w W W' : World} {yb pb : Nat} {p : Po} {s : Ya} (h : LawE w yb pb p s W) (hB : Below W.heap.size W W') : LawE w yb pb p s W' := by
  obtain ⟨y, hy⟩ := h
  exact ⟨y, hy.at1.kept (fun k hk => hB.block k (hy.at1.lt k hk)), hy.yb, hy.abs, hy.ge, hy.below.trans (hB.mono hy.below.size), (hB.block _ (heap_lt hy.row)).trans hy.row, hy.np⟩
theorem LawE.drewN {w W : World} {yb pb : Nat} {p : Po} {s : Ya} (h : LawE w yb pb p s W) (n : Nat) : LawE w yb pb p s (W.drewN n) := h.grow (bdN (Below.refl _ _) n)
theorem LawE.drew {w W : World} {yb pb : Nat} {p : Po} {s : Ya} (h : LawE w yb pb p s W) : LawE w yb pb p s W.drew := h.drewN 1
theorem LawE.step {w W : World} {yb pb : Nat} {p : Po} {s s' : Ya} (h : LawE w yb pb p s W) {f : FuncId} {args : Array Value} {R : Value}
    (hc : ∀ y : YS, YAt W y → y.yb = yb → y.abs = s → Calls Try.prog f args W fun r W' => r = .returned R ∧ Step W W' y s') :
    Calls Try.prog f args W fun r W' => r = .returned R ∧ LawE w yb pb p s' W' := by
  obtain ⟨y, hy⟩ := h
  refine (hc y hy.at1 hy.yb hy.abs).mono ?_
  rintro r W' ⟨rfl, y', h1, h2, h3, h4, h5⟩
  have hs := hy.below.size
  have hpl := heap_lt hy.row
  refine ⟨rfl, y', h1, h2.1.trans hy.yb, h3, fun k hk => ?_, hy.below.trans ⟨h5.os, h5.tape, h5.output, h5.size, fun k hk => h5.block k (by omega) (fun hm => by have := hy.ge k hm; omega)⟩, (h5.block _ hpl hy.np).trans hy.row, fun hm => ?_⟩
  · rcases h4 k hk with h | h
    · exact hy.ge k h
    · omega
  · rcases h4 _ hm with h | h
    · exact hy.np h
    · omega
theorem lw_Tick {w W : World} {yb pb : Nat} {p : Po} {s : Ya} (h : LawE w yb pb p s W) (hP : PubOk s.h) (hlen : s.h.next.hs.length ≤ 16) (hv0 : 0 ≤ s.h.next.p.ver) (hv1 : s.h.next.p.ver ≤ 1000000) (hl : s.way.length ≤ 900000) :
    Calls Try.prog 13 #[.pointer (some ⟨yb, 0, none⟩)] W fun r W' => r = .returned (I s.tick.way.length) ∧ LawE w yb pb p s.tick W' := by
  refine h.step (fun y hy h1 h2 => ?_)
  subst h1 h2
  exact yard_Tick y W hy hP hlen hv0 hv1 hl
/-- A note that may be delivered. -/
def DelOk (s : Ya) (i : Nat) : Prop := ∃ n, s.way[i]? = some n ∧ (n.ack = true ∨ (n.ack = false ∧ ∃ ui : Nat, n.u = ui ∧ ui < s.us.length ∧ HearOk (s.us.getD ui ⟨0, .none⟩) n))
theorem lw_Deliver {w W : World} {yb pb : Nat} {p : Po} {s : Ya} (h : LawE w yb pb p s W) (i : Nat) (keep : Bool) (hd : DelOk s i) (hl : s.way.length ≤ 900000) (hus : s.us.length < 1000) :
    Calls Try.prog 14 #[.pointer (some ⟨yb, 0, none⟩), .int .i64 i, .bool keep] W fun r W' => r = .returned (.bool true) ∧ LawE w yb pb p (s.deliver i keep) W' := by
  refine h.step (fun y hy h1 h2 => ?_)
  subst h1 h2
  have hus2 : y.us.length < 1000 := by simpa [YS.abs] using hus
  obtain ⟨n, hn, ha | ⟨ha, ui, hu, hui, hh⟩⟩ := hd
  · exact yard_Deliver_ack y W hy hl i n hn keep ha
  · exact yard_Deliver_unit y W hy hl hus2 i n hn keep ha ui hu (by simpa [YS.abs] using hui) hh
theorem lw_Deliver_out {w W : World} {yb pb : Nat} {p : Po} {s : Ya} (h : LawE w yb pb p s W) (i : Int) (keep : Bool) (hi : i < 0 ∨ (s.way.length : Int) ≤ i) :
    Calls Try.prog 14 #[.pointer (some ⟨yb, 0, none⟩), .int .i64 i, .bool keep] W fun r W' => r = .returned (.bool false) ∧ LawE w yb pb p s W' := by
  refine h.step (fun y hy h1 h2 => ?_)
  subst h1 h2
  exact yard_Deliver_out y W hy i keep hi
theorem lw_Lose {w W : World} {yb pb : Nat} {p : Po} {s : Ya} (h : LawE w yb pb p s W) (i : Nat) (hi : i < s.way.length) (hl : s.way.length ≤ 900000) :
    Calls Try.prog 17 #[.pointer (some ⟨yb, 0, none⟩), .int .i64 i] W fun r W' => r = .returned (.bool true) ∧ LawE w yb pb p (s.lose i) W' := by
  refine h.step (fun y hy h1 h2 => ?_)
  subst h1 h2
  exact yard_Lose_in y W hy i hi (by have : y.abs.way.length = y.way.length := rfl; omega)
theorem lw_Lose_out {w W : World} {yb pb : Nat} {p : Po} {s : Ya} (h : LawE w yb pb p s W) (i : Int) (hi : i < 0 ∨ (s.way.length : Int) ≤ i) :
    Calls Try.prog 17 #[.pointer (some ⟨yb, 0, none⟩), .int .i64 i] W fun r W' => r = .returned (.bool false) ∧ LawE w yb pb p s W' := by
  refine h.step (fun y hy h1 h2 => ?_)
  subst h1 h2
  exact yard_Lose_out y W hy i hi
theorem lw_Crash {w W : World} {yb pb : Nat} {p : Po} {s : Ya} (h : LawE w yb pb p s W) (i : Nat) (hi : i < s.us.length) (hus : s.us.length < 1000) (hb0 : 0 ≤ (s.us.getD i ⟨0, .none⟩).boot) (hb1 : (s.us.getD i ⟨0, .none⟩).boot ≤ 1000000) :
    Calls Try.prog 18 #[.pointer (some ⟨yb, 0, none⟩), .int .i64 i] W fun r W' => r = .returned (.bool true) ∧ LawE w yb pb p (s.crash i) W' := by
  refine h.step (fun y hy h1 h2 => ?_)
  subst h1 h2
  have hi2 : i < y.us.length := by simpa [YS.abs] using hi
  obtain ⟨x, hx⟩ : ∃ x, y.us[i]? = some x := ⟨_, List.getElem?_eq_getElem hi2⟩
  rw [abs_at hx] at hb0 hb1
  exact yard_Crash y W hy (by simpa [YS.abs] using hus) i x hx hb0 hb1
theorem lw_Notes {w W : World} {yb pb : Nat} {p : Po} {s : Ya} (h : LawE w yb pb p s W) :
    Calls Try.prog 16 #[.pointer (some ⟨yb, 0, none⟩)] W fun r W' => r = .returned (I s.way.length) ∧ W' = W := by
  obtain ⟨y, hy⟩ := h
  have := yard_Notes y W hy.at1
  rw [hy.yb] at this
  rw [← hy.abs]
  exact this
theorem lw_Version {w W : World} {yb pb : Nat} {p : Po} {s : Ya} (h : LawE w yb pb p s W) (i : Nat) (hi : i < s.us.length) (hus : s.us.length < 1000) :
    Calls Try.prog 15 #[.pointer (some ⟨yb, 0, none⟩), .int .i64 i] W fun r W' => r = .returned (.tuple #[I (s.us.getD i ⟨0, .none⟩).low, .bool (s.us.getD i ⟨0, .none⟩).up]) ∧ ∃ n, W' = W.drewN n := by
  obtain ⟨y, hy⟩ := h
  have e : s.us.length = y.us.length := by rw [← hy.abs]; simp [YS.abs]
  obtain ⟨x, hx⟩ : ∃ x, y.us[i]? = some x := ⟨_, List.getElem?_eq_getElem (by omega)⟩
  have := yard_Version_in y W hy.at1 (by omega) i x hx
  rw [hy.yb] at this
  rw [← hy.abs, abs_at hx]
  exact this
theorem lw_Pool {w W : World} {yb pb : Nat} {p : Po} {s : Ya} (h : LawE w yb pb p s W) :
    Calls Try.prog 26 #[.pointer (some ⟨yb, 0, none⟩)] W fun r W' => r = .returned s.h.p.v ∧ LawE w yb pb p s W' := by
  obtain ⟨y, hy⟩ := h
  have := yard_Pool y W hy.at1
  rw [hy.yb] at this
  refine this.mono ?_
  rintro r W' ⟨rfl, hB⟩
  exact ⟨by rw [← hy.abs]; rfl, LawE.grow ⟨y, hy⟩ hB⟩
theorem lw_New {w W : World} {pb : Nat} {p q : Po} (hq : q.ok) (u : Nat) (h1 : 1 ≤ u) (h2 : u ≤ 16) (hB : Below w.heap.size w W) (hrow : W.heap[pb]? = some (.cells p.cells.toArray 33 (0, 0))) :
    Calls Try.prog 12 #[q.v, .int .i64 u] W fun r W' => ∃ yb, r = .returned (.tuple #[.pointer (some ⟨yb, 0, none⟩), I 0]) ∧ LawE w yb pb p (Ya.new q u) W' := by
  refine (yard_New q u W hq h1 h2).mono ?_
  rintro r W' ⟨y, rfl, hy, ha, hB2, hge⟩
  have hs := hB.size
  have hl := heap_lt hrow
  exact ⟨y.yb, rfl, y, hy, rfl, ha, fun k hk => by have := hge k hk; omega, hB.trans (hB2.mono hs), (hB2.block _ hl).trans hrow, fun hm => by have := hge _ hm; omega⟩
end Go.Proofs.Ytimdaceidhdaeaa

namespace Go.Proofs.Ytimdaceidhdaeaa
/-! The yard's first round, in plain Lean. -/
def firstN (p : Po) (k : Nat) : No := ⟨k, 0, p.ver, true, false, En.zero, p⟩
theorem says_new (p : Po) (u : Nat) (hv : 0 ≤ p.ver) : ∀ k, k ≤ u → (⟨p, [], List.replicate u (0, -1), En.zero, false⟩ : He).says k = (List.range k).map (firstN p) := by
  intro k
  induction k with
  | zero => intro _; rfl
  | succ k ih =>
    intro hk
    rw [He.says, ih (by omega), List.range_succ, List.map_append]
    congr 1
    have e : (List.replicate u ((0 : Int), (-1 : Int))).getD k (0, 0) = (0, -1) := by
      simp [List.getD_eq_getElem?_getD, List.getElem?_replicate, show k < u by omega]
    show He.note _ k ((List.replicate u ((0 : Int), (-1 : Int))).getD k (0, 0)) = _
    rw [e]
    unfold He.note
    rw [if_neg (by show ¬ p.ver ≤ -1; omega), if_neg (by simp)]
    rfl
theorem all_new (p : Po) (u : Nat) (h1 : 1 ≤ u) (hv : 0 ≤ p.ver) : (⟨p, [], List.replicate u (0, -1), En.zero, false⟩ : He).all = false := by
  refine all_false (j := 0) (by simp; omega) ?_
  have e : (List.replicate u ((0 : Int), (-1 : Int))).getD 0 (0, 0) = (0, -1) := by
    simp [List.getD_eq_getElem?_getD, List.getElem?_replicate, show 0 < u by omega]
  show ((List.replicate u ((0 : Int), (-1 : Int))).getD 0 (0, 0)).2 ≠ p.ver
  rw [e]
  show (-1 : Int) ≠ p.ver
  omega
theorem next_new (p : Po) (u : Nat) (h1 : 1 ≤ u) (hv : 0 ≤ p.ver) : (Ya.new p u).h.next = (Ya.new p u).h := by
  unfold He.next
  rw [show (Ya.new p u).h.all = false from all_new p u h1 hv]
  rfl
theorem tick_new (p : Po) (u : Nat) (h1 : 1 ≤ u) (hv : 0 ≤ p.ver) : (Ya.new p u).tick = ⟨(Ya.new p u).h, List.replicate u ⟨0, .none⟩, (List.range u).map (firstN p)⟩ := by
  unfold Ya.tick
  rw [next_new p u h1 hv]
  have := says_new p u hv u (Nat.le_refl _)
  show (⟨_, _, [] ++ (Ya.new p u).h.says (List.replicate u ((0 : Int), (-1 : Int))).length⟩ : Ya) = _
  rw [List.length_replicate, List.nil_append]
  show (⟨_, _, (⟨p, [], List.replicate u (0, -1), En.zero, false⟩ : He).says u⟩ : Ya) = _
  rw [this]
  rfl
/-- A unit of the first boot that gets a whole note. -/
theorem come_first (u : Uu) (p : Po) (k : Nat) (hb : u.boot = 0) : u.come (firstN p k) = if u.ver < p.ver then ⟨0, .some p⟩ else u := by
  unfold Uu.come firstN
  simp only [hb]
  simp
theorem deliver_first (s : Ya) (p : Po) (i j : Nat) (keep : Bool) (hi : s.way[i]? = some (firstN p j)) (hj : j < s.us.length) :
    s.deliver i keep = { s with us := s.us.set j ((s.us.getD j ⟨0, .none⟩).come (firstN p j)), way := (if keep then s.way else s.way.eraseIdx i) ++ [((s.us.getD j ⟨0, .none⟩).come (firstN p j)).word j] } := by
  unfold Ya.deliver
  have e : s.way.getD i No.zero = firstN p j := by simp [List.getD_eq_getElem?_getD, hi]
  simp only [e]
  have e2 : (firstN p j).ack = false := rfl
  have e3 : (firstN p j).u = (j : Int) := rfl
  simp only [e2, Bool.false_eq_true, if_false, e3]
  rw [if_pos (by omega)]
  rfl
theorem delOk_first (s : Ya) (p : Po) (i j : Nat) (hp : p.ok) (hi : s.way[i]? = some (firstN p j)) (hj : j < s.us.length) : DelOk s i :=
  ⟨_, hi, .inr ⟨rfl, j, rfl, hj, hear_whole _ _ hp rfl⟩⟩
/-- A note that is delivered three times. -/
def twice (p : Po) (u i : Nat) : Ya := (Ya.new p u).tick
theorem twice_at (p : Po) (u i : Nat) (h1 : 1 ≤ u) (hv : 0 ≤ p.ver) (hi : i < u) : (twice p u i).way[i]? = some (firstN p i) ∧ (twice p u i).us = List.replicate u ⟨0, .none⟩ ∧ (twice p u i).way.length = u := by
  unfold twice
  rw [tick_new p u h1 hv]
  refine ⟨?_, rfl, by simp⟩
  simp [hi]
theorem twice_1 (p : Po) (u i : Nat) (h1 : 1 ≤ u) (hv : 0 ≤ p.ver) (hi : i < u) :
    (twice p u i).deliver i true = { twice p u i with us := (List.replicate u ⟨0, .none⟩).set i ⟨0, .some p⟩, way := (twice p u i).way ++ [(⟨0, .some p⟩ : Uu).word i] } := by
  obtain ⟨e1, e2, e3⟩ := twice_at p u i h1 hv hi
  rw [deliver_first _ p i i true e1 (by rw [e2]; simpa using hi), e2]
  have e : (List.replicate u (⟨0, .none⟩ : Uu)).getD i ⟨0, .none⟩ = ⟨0, .none⟩ := by simp [List.getD_eq_getElem?_getD, List.getElem?_replicate, hi]
  rw [e, come_first _ _ _ rfl, if_pos (by show (-1 : Int) < p.ver; omega)]
  rfl
theorem set_get (u i : Nat) (x y : Uu) (hi : i < u) (d : Uu) : ((List.replicate u x).set i y).getD i d = y := by
  simp [List.getD_eq_getElem?_getD, hi]
theorem twice_2 (p : Po) (u i : Nat) (h1 : 1 ≤ u) (hv : 0 ≤ p.ver) (hi : i < u) (keep : Bool) (s : Ya) (hs : s.us = (List.replicate u ⟨0, .none⟩).set i ⟨0, .some p⟩) (hw : s.way[i]? = some (firstN p i)) :
    s.deliver i keep = { s with way := (if keep then s.way else s.way.eraseIdx i) ++ [(⟨0, .some p⟩ : Uu).word i] } := by
  have hj : i < s.us.length := by rw [hs]; simpa using hi
  rw [deliver_first s p i i keep hw hj, hs, set_get u i _ _ hi, come_first _ _ _ rfl, if_neg (by show ¬ (p.ver < p.ver); omega), List.set_set]
theorem twice_all (p : Po) (u i : Nat) (h1 : 1 ≤ u) (hv : 0 ≤ p.ver) (hi : i < u) (hp : p.ok) :
    DelOk (twice p u i) i ∧ DelOk ((twice p u i).deliver i true) i ∧ DelOk (((twice p u i).deliver i true).deliver i true) i ∧
    (((((twice p u i).deliver i true).deliver i true).deliver i false).us.getD i ⟨0, .none⟩) = ⟨0, .some p⟩ ∧ ((((twice p u i).deliver i true).deliver i true).deliver i false).us.length = u ∧
    ((((twice p u i).deliver i true).deliver i true).deliver i false).way.length = u - 1 + 3 ∧ (twice p u i).way.length = u ∧ ((twice p u i).deliver i true).way.length = u + 1 ∧ (((twice p u i).deliver i true).deliver i true).way.length = u + 2 := by
  obtain ⟨e1, e2, e3⟩ := twice_at p u i h1 hv hi
  have t1 := twice_1 p u i h1 hv hi
  have w1 : ((twice p u i).deliver i true).way[i]? = some (firstN p i) := by
    rw [t1]; show ((twice p u i).way ++ _)[i]? = _
    rw [List.getElem?_append_left (by omega)]; exact e1
  have u1 : ((twice p u i).deliver i true).us = (List.replicate u ⟨0, .none⟩).set i ⟨0, .some p⟩ := by rw [t1]
  have l1 : ((twice p u i).deliver i true).way.length = u + 1 := by rw [t1]; show ((twice p u i).way ++ [_]).length = _; simp [e3]
  generalize (twice p u i).deliver i true = s1 at w1 u1 l1
  have t2 := twice_2 p u i h1 hv hi true s1 u1 w1
  have w2 : (s1.deliver i true).way[i]? = some (firstN p i) := by
    rw [t2]; show (s1.way ++ _)[i]? = _
    rw [List.getElem?_append_left (by omega)]; exact w1
  have u2 : (s1.deliver i true).us = (List.replicate u ⟨0, .none⟩).set i ⟨0, .some p⟩ := by rw [t2]; exact u1
  have l2 : (s1.deliver i true).way.length = u + 2 := by rw [t2]; show (s1.way ++ [_]).length = _; simp [l1]
  generalize s1.deliver i true = s2 at w2 u2 l2
  have t3 := twice_2 p u i h1 hv hi false s2 u2 w2
  refine ⟨delOk_first _ p i i hp e1 (by rw [e2]; simpa using hi), delOk_first _ p i i hp w1 (by rw [u1]; simpa using hi), delOk_first _ p i i hp w2 (by rw [u2]; simpa using hi), ?_, ?_, ?_, e3, l1, l2⟩
  · rw [t3]; show s2.us.getD i _ = _
    rw [u2]; exact set_get u i _ _ hi _
  · rw [t3]; show s2.us.length = _
    rw [u2]; simp
  · rw [t3]; show (s2.way.eraseIdx i ++ [_]).length = _
    rw [List.length_append, List.length_eraseIdx_of_lt (by omega), l2]; simp; omega
end Go.Proofs.Ytimdaceidhdaeaa
