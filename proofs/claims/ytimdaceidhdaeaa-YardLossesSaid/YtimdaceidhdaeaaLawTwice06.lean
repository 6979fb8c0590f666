/- Proved: lemmas that the law's proof stands on (YardB, YardC, YardD, YardE, AppLaw, YardF, YardG, YardH, YardI, YardJ, RowOf, YardL). Conditions: as each states. -/
import Derived.Deep.AppendLies
import Derived.Test.YtimdaceidhdaeaaLawTwice03
import Derived.Test.YtimdaceidhdaeaaLawTwice05

namespace Go.Proofs.Ytimdaceidhdaeaa
open Go.RowKit Go.Proofs

theorem Pl.at_w (q : Pl) (hk : q.ok) : q.cells[459]? = some q.w := by
  have : q.cells = (q.x.cells ++ (.bool q.is :: q.near)) ++ [q.w] := by simp [Pl.cells]
  rw [this, List.getElem?_append_right (by simp [Po.cells_len _ hk.x, hk.near])]
  simp [Po.cells_len _ hk.x, hk.near]
theorem Pl.set_w (q : Pl) (hk : q.ok) (v : Value) : q.cells.toArray.setIfInBounds 459 v = ({ q with w := v } : Pl).cells.toArray := by
  have h1 : q.cells = (q.x.cells ++ (.bool q.is :: q.near)) ++ [q.w] := by simp [Pl.cells]
  have h2 : ({ q with w := v } : Pl).cells = (q.x.cells ++ (.bool q.is :: q.near)) ++ [v] := by simp [Pl.cells]
  rw [h1, h2]
  simp only [List.setIfInBounds_toArray]
  rw [List.set_append_right _ _ (by simp [Po.cells_len _ hk.x, hk.near])]
  simp [Po.cells_len _ hk.x, hk.near]
theorem owns_mono {w : World} {B B' : Nat} {e : TypeId} {k n : Nat} {v : Value} {xs : List Value} (h : w.ownsRow B e k v n xs) (hB : B' ≤ B) : w.ownsRow B' e k v n xs :=
  ⟨h.1, h.2.imp id (fun ⟨g, cap, cur, hv, hb, rest⟩ => ⟨g, cap, cur, hv, Nat.le_trans hB hb, rest⟩)⟩
theorem grown_setCell {w : World} {p : Addr} (v : Value) : w.grownBy (w.setCell p v) (some p.block) := by
  have h := Kp.setCell (F := fun k => k = p.block) (w := w) (p := p) rfl v
  exact ⟨h.os, h.tape, h.output, h.size, fun k hk hne => h.block k hk (fun e => hne (by rw [e]))⟩
/-- Load: its box stands. -/
structure SLd (bx : Nat) (x : Po) (W : World) : Prop where
  row : W.heap[bx]? = some (.cells x.cells.toArray 33 (0, 0))
set_option maxHeartbeats 1000000 in
set_option maxRecDepth 100000 in
theorem plane_Load (b : Nat) (q : Pl) (x : Po) (w : World) (hq : planeAt w b q) (hk : q.ok) (hx : x.ok) :
    Calls Try.prog 74 #[.pointer (some ⟨b, 0, none⟩), x.v] w fun r w' => r = .returned (.tuple #[]) ∧ Kp (fun k => k = b) w w' ∧
      ∃ v, planeAt w' b { q with x := x, is := true, w := v } ∧ w'.ownsRow w.heap.size 3 1 v 127 ((wheel x).map (Value.int .i64)) := by
  have hlt := heap_lt hq
  have hw1 := heap_alloc_new w (.cells x.cells.toArray 33)
  have hq1 : planeAt (w.alloc (.cells x.cells.toArray 33)) b q := heap_old_at hlt hq
  have hB : Kp (fun k => k = b) w (w.alloc (.cells x.cells.toArray 33)) := Kp.of_below ((Below.refl _ _).alloc (Nat.le_refl _) _)
  have HI := Lib.hid (size33 x hx)
  have HX := Lib.hid hx
  have HQ := Lib.hid hk
  clear hx hk hq
  unfold Po.v
  go_enter Try.func74, Try.ntmps74
  go_wp2_with fail
  generalize w.alloc (.cells x.cells.toArray 33) = w1 at hw1 hq1 hB ⊢
  refine wp_region_noPanic ?_
  refine wp_region_held_drew (S := SLd w.heap.size x) (by kernel_rfl) ⟨hw1⟩ ?_
  intro hS
  have hq2 : planeAt w1.drew b q := hq1
  have hB2 : Kp (fun k => k = b) w w1.drew := ⟨hB.os, hB.tape, hB.output, hB.size, hB.block⟩
  clear hq1 hw1 hB
  generalize w1.drew = X at hS hq2 hB2 ⊢
  refine wpAnyH_take (i := 0) (v := ?_) rfl (by kernel_rfl) (by kernel_rfl) (by kernel_rfl) (fun _ _ _ h => h) (Or.inl ⟨by rfl, ?_⟩) (by assumption) ?_
  rotate_left
  · intro W1 h1; clear h1; go_simp; first | done | with_reducible rfl
  simp only [List.getElem_toArray, List.getElem_cons_succ, List.getElem_cons_zero, Act.put, List.setIfInBounds_toArray, List.set_cons_zero, List.set_cons_succ]
  refine wpAnyH_take (i := 1) (v := ?_) rfl (by kernel_rfl) (by kernel_rfl) (by kernel_rfl) (fun _ _ _ h => h) (Or.inl ⟨by rfl, ?_⟩) (by assumption) ?_
  rotate_left
  · intro W1 h1; clear h1; go_simp; first | done | with_reducible rfl
  simp only [List.getElem_toArray, List.getElem_cons_succ, List.getElem_cons_zero, Act.put, List.setIfInBounds_toArray, List.set_cons_zero, List.set_cons_succ]
  refine wpAnyH_take (i := 2) (v := ?_) rfl (by kernel_rfl) (by kernel_rfl) (by kernel_rfl) (fun _ _ _ h => h) (Or.inl ⟨by rfl, ?_⟩) (by assumption) ?_
  rotate_left
  · intro W1 h1; clear h1; go_simp; first | done | with_reducible rfl
  simp only [List.getElem_toArray, List.getElem_cons_succ, List.getElem_cons_zero, Act.put, List.setIfInBounds_toArray, List.set_cons_zero, List.set_cons_succ]
  refine wpAnyH_take (i := 3) (v := .agg x.cells.toArray) rfl (by kernel_rfl) (by kernel_rfl) (by kernel_rfl) (fun _ _ _ h => h) (yieldsIf_load_mid (by rfl) 33 _ rfl w.heap.size 0 rfl x.cells _ (fun W h => pool_range h.row) Try.underlying33 rfl HI.out) (by assumption) ?_
  simp only [List.getElem_toArray, List.getElem_cons_succ, List.getElem_cons_zero, Act.put, List.setIfInBounds_toArray, List.set_cons_zero, List.set_cons_succ]
  refine wpAnyH_ready (rs := [4]) (by kernel_rfl) (by simp) ?_
  refine AllReadyH.cons rfl (fun K hK => ?_) AllReadyH.nil
  have HL := Lib.hid (plane_lay b q x X hq2 HQ.out HX.out)
  unfold Po.v at HL
  go_simp
  refine HL.out.mono ?_
  rintro e W ⟨rfl, hp, hkp⟩
  refine hK.out _ _ ⟨(hkp.block _ (heap_lt hS.row) (by omega)).trans hS.row⟩ (fun hS2 => ?_)
  clear hK K hS
  have hB3 := hB2.trans hkp
  clear hB2 hkp hq2 HL
  refine wpAnyH_done (by kernel_rfl) ?_ _
  refine NoPanic.normal ?_
  have HR := Lib.hid (pool_range hS2.row)
  have HM := Lib.hid (wheel_Make x W HX.out)
  unfold Po.v at HM
  go_wp2_with (first
    | (refine wpList_load_mid rfl 33 _ rfl w.heap.size 0 rfl x.cells _ HR.out Try.underlying33 rfl HI.out ?_)
    | (go_at_call 80; refine HM.out.mono ?_; rintro r W2 ⟨v, rfl, hown, hbw⟩; have hp2 : planeAt W2 b { q with x := x, is := true } := (hbw.block _ (heap_lt hp)).trans hp; have c0 : W2.cell? ⟨b, 459, none⟩ = some q.w := (by rw [cell_of_row _ _ _ _ _ _ hp2, List.getElem?_toArray]; exact Pl.at_w { q with x := x, is := true } ⟨HX.out, HQ.out.near, HQ.out.one⟩); have f0 := frozen_of_row _ _ 459 _ _ hp2; have HP := Lib.hid hp2; clear hp2; obtain ⟨g, cap, rfl⟩ : ∃ g cap, v = .slice (some ⟨g, 0, none⟩) 127 cap := (by rcases hown.2 with ⟨_, h⟩ | ⟨g, cap, _, rfl, _⟩; (exact absurd h (by decide)); exact ⟨g, cap, rfl⟩); have HOWN := Lib.hid hown; clear hown))
  have hp9 := setCell_block HP.out 459 (.slice (some ⟨g, 0, none⟩) 127 cap)
  rw [Pl.set_w { q with x := x, is := true } ⟨HX.out, HQ.out.near, HQ.out.one⟩] at hp9
  have hbl : b < W.heap.size := heap_lt hp
  have hg := (HOWN.out.lt g rfl)
  refine bodyPost_end (results_none rfl _ _ _) rfl ⟨rfl, (hB3.trans (Kp.of_below hbw)).trans (Kp.setCell (F := fun k => k = b) (p := ⟨b, 459, none⟩) rfl _), _, hp9, ?_⟩
  exact (owns_mono HOWN.out (hB3.size)).kept (grown_setCell (p := ⟨b, 459, none⟩) _) (by right; intro e; injection e with e; have e : g = b := e; have := hg.1; omega)
end Go.Proofs.Ytimdaceidhdaeaa

namespace Go.Proofs.Ytimdaceidhdaeaa
open Go.RowKit Go.Proofs

/-- A unit, as its block holds it. -/
structure Un where
  pb : Nat
  p : Po
  boot : Int
  ch : Nat
def Un.cells (u : Un) : List Value := .pointer (some ⟨u.pb, 0, none⟩) :: (u.p.cells ++ [I u.boot, .chan (some u.ch)])
def unitAt (w : World) (b : Nat) (u : Un) : Prop := w.heap[b]? = some (.cells u.cells.toArray 83 (0, 0))
def Pl.v (q : Pl) : Int := if q.is then q.x.ver else -1
set_option maxHeartbeats 1000000 in
theorem unit_version (ub : Nat) (u : Un) (q : Pl) (w : World) (hu : unitAt w ub u) (hq : planeAt w u.pb q) (hk : q.ok) :
    Calls Try.prog 64 #[.pointer (some ⟨ub, 0, none⟩)] w fun r w' => r = .returned (I q.v) ∧ ∃ n, w' = w.drewN n := by
  have c0 : w.cell? ⟨ub, 0, none⟩ = some (.pointer (some ⟨u.pb, 0, none⟩)) := by rw [cell_of_row _ _ _ _ _ _ hu]; rfl
  have HV := Lib.hid (plane_Version u.pb q w hq hk)
  clear hu hq hk
  have hv : Bx (q.v = if q.is then q.x.ver else -1) := ⟨rfl⟩
  generalize q.v = v at hv ⊢
  generalize q.x.ver = x at HV hv
  cases hi : q.is
  · rw [hi] at HV hv
    go_enter Try.func64, Try.ntmps64
    go_wp2_with (go_at_call 42; refine HV.out.mono ?_; rintro r w' ⟨rfl, n, rfl⟩)
    go_ret
    exact ⟨ret_int (by rw [hv.out]; rfl), _, rfl⟩
  · rw [hi] at HV hv
    go_enter Try.func64, Try.ntmps64
    go_wp2_with (go_at_call 42; refine HV.out.mono ?_; rintro r w' ⟨rfl, n, rfl⟩)
    go_ret
    exact ⟨ret_int (by rw [hv.out]; rfl), _, rfl⟩
theorem spl_mid (L A A' B : List Value) (h : A'.length = A.length) : spl (L ++ (A ++ B)).toArray L.length A' = (L ++ (A' ++ B)).toArray := by
  apply Array.ext
  · rw [spl_size]; simp [h]
  intro i h1 h2
  apply Option.some.inj
  rw [← Array.getElem?_eq_getElem h1, ← Array.getElem?_eq_getElem h2]
  have hi : i < (L ++ (A ++ B)).toArray.size := by rw [spl_size] at h1; exact h1
  rw [spl_get _ _ _ _ hi]
  simp only [List.getElem?_toArray]
  by_cases c0 : i < L.length
  · rw [if_neg (by omega), List.getElem?_append_left c0, List.getElem?_append_left c0]
  · have hL : ∀ R : List Value, (L ++ R)[i]? = R[i - L.length]? := fun R => List.getElem?_append_right (by omega)
    rw [hL, hL]
    by_cases c : i - L.length < A'.length
    · rw [if_pos (by omega), List.getElem?_append_left c]
    · rw [if_neg (by omega), List.getElem?_append_right (by omega), List.getElem?_append_right (by omega), h]
theorem Un.cells_len (u : Un) (h : u.p.ok) : u.cells.length = 333 := by simp [Un.cells, Po.cells_len _ h]
structure SUl (ub pb bx : Nat) (x : Po) (W : World) : Prop where
  row : W.heap[bx]? = some (.cells x.cells.toArray 33 (0, 0))
  ptr : W.cell? ⟨ub, 0, none⟩ = some (.pointer (some ⟨pb, 0, none⟩))
set_option maxHeartbeats 1000000 in
set_option maxRecDepth 100000 in
theorem unit_load (ub : Nat) (u : Un) (q : Pl) (x : Po) (w : World) (hu : unitAt w ub u) (hup : u.p.ok) (hq : planeAt w u.pb q) (hk : q.ok) (hne : ub ≠ u.pb) (hx : x.ok) :
    Calls Try.prog 65 #[.pointer (some ⟨ub, 0, none⟩), x.v] w fun r w' => r = .returned (.tuple #[]) ∧ Kp (fun k => k = ub ∨ k = u.pb) w w' ∧ unitAt w' ub { u with p := x } ∧
      ∃ v, planeAt w' u.pb { q with x := x, is := true, w := v } ∧ w'.ownsRow w.heap.size 3 1 v 127 ((wheel x).map (Value.int .i64)) := by
  have hlt := heap_lt hu
  have hlp := heap_lt hq
  have hw1 := heap_alloc_new w (.cells x.cells.toArray 33)
  have hu1 : unitAt (w.alloc (.cells x.cells.toArray 33)) ub u := heap_old_at hlt hu
  have hq1 : planeAt (w.alloc (.cells x.cells.toArray 33)) u.pb q := heap_old_at hlp hq
  have hB : Kp (fun k => k = ub ∨ k = u.pb) w (w.alloc (.cells x.cells.toArray 33)) := Kp.of_below ((Below.refl _ _).alloc (Nat.le_refl _) _)
  have hs : unitAt ((w.alloc (.cells x.cells.toArray 33)).setCells ub 1 x.cells) ub { u with p := x } := by
    have := setCells_block x.cells 1 _ _ hu1
    have e : u.cells = [.pointer (some ⟨u.pb, 0, none⟩)] ++ (u.p.cells ++ [I u.boot, .chan (some u.ch)]) := rfl
    rw [e] at this
    have e2 := spl_mid [.pointer (some ⟨u.pb, 0, none⟩)] u.p.cells x.cells [I u.boot, .chan (some u.ch)] (by rw [Po.cells_len _ hx, Po.cells_len _ hup])
    rw [show ([.pointer (some ⟨u.pb, 0, none⟩)] : List Value).length = 1 from rfl] at e2
    rw [e2] at this
    exact this
  have hqs : planeAt ((w.alloc (.cells x.cells.toArray 33)).setCells ub 1 x.cells) u.pb q := (setCells_other (by omega) _ _ _).trans hq1
  have hws : ((w.alloc (.cells x.cells.toArray 33)).setCells ub 1 x.cells).heap[w.heap.size]? = some (.cells x.cells.toArray 33 (0, 0)) := (setCells_other (by omega) _ _ _).trans hw1
  have hB2 : Kp (fun k => k = ub ∨ k = u.pb) w ((w.alloc (.cells x.cells.toArray 33)).setCells ub 1 x.cells) :=
    hB.trans ⟨(setCells_rest _ _ _).1, (setCells_rest _ _ _).2.1, (setCells_rest _ _ _).2.2, by rw [setCells_size]; exact Nat.le_refl _, fun k _ hk => setCells_other (fun e => hk (Or.inl e)) _ _ _⟩
  have HR := Lib.hid (pool_range hw1)
  have HT := Lib.hid (there_of_block hu1 1 x.cells.toArray.size (by rw [List.size_toArray, Po.cells_len _ hx, List.size_toArray, Un.cells_len _ hup]; decide))
  have HI := Lib.hid (size33 x hx)
  have HI2 := Lib.hid (size33s x hx)
  have HO := Lib.hid (Po.one x)
  have HX := Lib.hid hx
  have HQ := Lib.hid hk
  have HA := Bx.mk (And.intro hs (And.intro hqs (And.intro hws hB2)))
  clear hx hk hq hu hw1 hu1 hq1 hB hs hqs hws hB2
  unfold Po.v
  go_enter Try.func65, Try.ntmps65
  go_wp2_with (first
    | (refine wpList_load_mid rfl 33 _ rfl w.heap.size 0 rfl x.cells _ HR.out Try.underlying33 rfl HI.out ?_)
    | (refine wpList_store_mid rfl 33 _ _ rfl ub 1 _ rfl rfl HT.out HI2.out HO.out ?_
       simp only [List.toList_toArray]
       generalize (w.alloc (.cells x.cells.toArray 33)).setCells ub 1 x.cells = w1 at HA ⊢))
  obtain ⟨hs, hqs, hws, hB2⟩ := HA.out
  clear HA HR HT
  refine wp_region_noPanic ?_
  refine wp_region_held_drew (S := SUl ub u.pb w.heap.size x) (by kernel_rfl) ⟨hws, by show w1.cell? _ = _; rw [cell_of_row _ _ _ _ _ _ hs]; rfl⟩ ?_
  intro hS
  have hq2 : planeAt w1.drew u.pb q := hqs
  have hu2 : unitAt w1.drew ub { u with p := x } := hs
  replace hB2 : Kp (fun k => k = ub ∨ k = u.pb) w w1.drew := ⟨hB2.os, hB2.tape, hB2.output, hB2.size, hB2.block⟩
  clear hqs hs hws
  generalize w1.drew = X at hS hq2 hu2 hB2 ⊢
  refine wpAnyH_take (i := 0) (v := ?_) rfl (by kernel_rfl) (by kernel_rfl) (by kernel_rfl) (fun _ _ _ h => h) (Or.inl ⟨by rfl, ?_⟩) (by assumption) ?_
  rotate_left
  · intro W1 h1; clear h1; go_simp; first | done | with_reducible rfl
  simp only [List.getElem_toArray, List.getElem_cons_succ, List.getElem_cons_zero, Act.put, List.setIfInBounds_toArray, List.set_cons_zero, List.set_cons_succ]
  refine wpAnyH_take (i := 1) (v := ?_) rfl (by kernel_rfl) (by kernel_rfl) (by kernel_rfl) (fun _ _ _ h => h) (Or.inl ⟨by rfl, ?_⟩) (by assumption) ?_
  rotate_left
  · intro W1 h1; clear h1; go_simp; first | done | with_reducible rfl
  simp only [List.getElem_toArray, List.getElem_cons_succ, List.getElem_cons_zero, Act.put, List.setIfInBounds_toArray, List.set_cons_zero, List.set_cons_succ]
  refine wpAnyH_take (i := 2) (v := ?_) rfl (by kernel_rfl) (by kernel_rfl) (by kernel_rfl) (fun _ _ _ h => h) (Or.inl ⟨by rfl, ?_⟩) (by assumption) ?_
  rotate_left
  · intro W1 h1; clear h1; go_simp; first | done | with_reducible rfl
  simp only [List.getElem_toArray, List.getElem_cons_succ, List.getElem_cons_zero, Act.put, List.setIfInBounds_toArray, List.set_cons_zero, List.set_cons_succ]
  refine wpAnyH_take (i := 3) (v := ?_) rfl (by kernel_rfl) (by kernel_rfl) (by kernel_rfl) (fun _ _ _ h => h) (Or.inl ⟨by rfl, ?_⟩) (by assumption) ?_
  rotate_left
  · intro W1 h1; have d := h1.ptr; clear h1; go_simp; first | done | with_reducible rfl
  simp only [List.getElem_toArray, List.getElem_cons_succ, List.getElem_cons_zero, Act.put, List.setIfInBounds_toArray, List.set_cons_zero, List.set_cons_succ]
  refine wpAnyH_take (i := 4) (v := .agg x.cells.toArray) rfl (by kernel_rfl) (by kernel_rfl) (by kernel_rfl) (fun _ _ _ h => h) (yieldsIf_load_mid (by rfl) 33 _ rfl w.heap.size 0 rfl x.cells _ (fun W h => pool_range h.row) Try.underlying33 rfl HI.out) (by assumption) ?_
  simp only [List.getElem_toArray, List.getElem_cons_succ, List.getElem_cons_zero, Act.put, List.setIfInBounds_toArray, List.set_cons_zero, List.set_cons_succ]
  refine wpAnyH_ready (rs := [5]) (by kernel_rfl) (by simp) ?_
  refine AllReadyH.cons rfl (fun K hK => ?_) AllReadyH.nil
  have HL := Lib.hid (plane_Load u.pb q x X hq2 HQ.out HX.out)
  unfold Po.v at HL
  go_simp
  refine HL.out.mono ?_
  rintro e W ⟨rfl, hkp, v, hp, hown⟩
  have huW : unitAt W ub { u with p := x } := (hkp.block _ (heap_lt hu2) hne).trans hu2
  refine hK.out _ _ ⟨(hkp.block _ (heap_lt hS.row) (by omega)).trans hS.row, by rw [cell_of_row _ _ _ _ _ _ huW]; rfl⟩ (fun _ => ?_)
  clear hK K hS
  have hB3 := hB2.trans (hkp.mono (fun k _ h => Or.inr h))
  have hsz := hB2.size
  clear hB2 hkp hq2 HL
  refine wpAnyH_done (by kernel_rfl) ?_ _
  refine NoPanic.normal ?_
  have HOWN := Lib.hid hown
  have HUW := Lib.hid huW
  have HP := Lib.hid hp
  clear hown huW hp hu2
  go_wp2_with fail
  exact bodyPost_end (results_none rfl _ _ _) rfl ⟨rfl, hB3, HUW.out, v, HP.out, owns_mono HOWN.out hsz⟩
end Go.Proofs.Ytimdaceidhdaeaa

namespace Go.Proofs.Ytimdaceidhdaeaa
open Go.RowKit Go.Proofs
theorem size131 : (Try.prog.info? 131).map (·.size) = some Pl.zero.cells.toArray.size := by
  rw [List.size_toArray, Pl.cells_len _ Pl.zero_ok]; kernel_rfl
theorem Pl.one_all (q : Pl) (h : q.ok) : q.cells.toArray.all (·.oneCell') = true := by
  apply all_oneCell_toArray
  intro v hv
  unfold Pl.cells at hv
  rcases List.mem_append.1 hv with hv | hv
  · have := Po.one q.x
    rw [Array.all_eq_true_iff_forall_mem] at this
    exact this v (by simpa using hv)
  · rcases List.mem_cons.1 hv with rfl | hv
    · rfl
    · exact h.one v hv
set_option maxHeartbeats 1000000 in
theorem plane_Crash (b : Nat) (q : Pl) (w : World) (hq : planeAt w b q) (hk : q.ok) :
    Calls Try.prog 43 #[.pointer (some ⟨b, 0, none⟩)] w fun r w' => r = .returned (.tuple #[]) ∧ Kp (fun k => k = b) w w' ∧ planeAt w' b Pl.zero := by
  have HT := Lib.hid (there_of_block hq 0 Pl.zero.cells.toArray.size (by rw [List.size_toArray, Pl.cells_len _ Pl.zero_ok, List.size_toArray, Pl.cells_len _ hk]; decide))
  have HR := Lib.hid (row_stored hq (vs := Pl.zero.cells) (by rw [Pl.cells_len _ Pl.zero_ok, List.size_toArray, Pl.cells_len _ hk]))
  have HI := Lib.hid size131
  have HO := Lib.hid (Pl.one_all Pl.zero Pl.zero_ok)
  clear hq hk
  go_enter Try.func43, Try.ntmps43
  go_wp2_with (first
    | (refine wpList_run_build rfl 131 _ rfl (.agg Pl.zero.cells.toArray) ?_ ?_; (simp only [List.map_toArray, List.map_nil]; exact build_plane0 _))
    | (refine wpList_store_mid rfl 131 _ _ rfl b 0 _ rfl rfl HT.out HI.out HO.out ?_))
  exact bodyPost_end (results_none rfl _ _ _) rfl ⟨rfl, ⟨(setCells_rest _ _ _).1, (setCells_rest _ _ _).2.1, (setCells_rest _ _ _).2.2, by rw [setCells_size]; exact Nat.le_refl _, fun k _ hk => setCells_other hk _ _ _⟩, HR.out⟩
end Go.Proofs.Ytimdaceidhdaeaa

namespace Go.Proofs.Ytimdaceidhdaeaa
open Go.RowKit Go.Proofs
set_option maxHeartbeats 1000000 in
theorem units_at_in (b o g n cap ub : Nat) (i : Nat) (w : World) (hs : w.cell? ⟨b, o, none⟩ = some (.slice (some ⟨g, 0, none⟩) n cap)) (hi : i < n) (hn : n < 4611686018427387904) (hu : w.cell? ⟨g, i, none⟩ = some (.pointer (some ⟨ub, 0, none⟩))) :
    Calls Try.prog 40 #[.pointer (some ⟨b, o, none⟩), .int .i64 i] w fun r w' => r = .returned (.tuple #[.pointer (some ⟨ub, 0, none⟩), .bool true]) ∧ w' = w := by
  have d0 : decide ((i : Int) < 0) = false := decide_eq_false (by omega)
  have d1 : decide ((n : Int) ≤ (i : Int)) = false := decide_eq_false (by omega)
  have k0 : (0 : Int) ≤ (i : Int) := by omega
  go_enter Try.func40, Try.ntmps40
  go_wp2_with fail
  exact bodyPost_ret (results_tmp2 rfl _ _ _) rfl ⟨rfl, rfl⟩
set_option maxHeartbeats 1000000 in
theorem units_at_out (b o n cap : Nat) (a : Option Addr) (i : Int) (w : World) (hs : w.cell? ⟨b, o, none⟩ = some (.slice a n cap)) (hi : i < 0 ∨ (n : Int) ≤ i) :
    Calls Try.prog 40 #[.pointer (some ⟨b, o, none⟩), .int .i64 i] w fun r w' => r = .returned (.tuple #[.pointer none, .bool false]) ∧ w' = w := by
  by_cases c : i < 0
  · have d0 : decide (i < 0) = true := decide_eq_true c
    go_enter Try.func40, Try.ntmps40
    go_wp2_with fail
    exact bodyPost_ret (results_tmp2 rfl _ _ _) rfl ⟨rfl, rfl⟩
  · have d0 : decide (i < 0) = false := decide_eq_false c
    have d1 : decide ((n : Int) ≤ i) = true := decide_eq_true (by omega)
    go_enter Try.func40, Try.ntmps40
    go_wp2_with fail
    exact bodyPost_ret (results_tmp2 rfl _ _ _) rfl ⟨rfl, rfl⟩
end Go.Proofs.Ytimdaceidhdaeaa

namespace Go.Proofs.Ytimdaceidhdaeaa
open Go.RowKit Go.Proofs
/-- The append of a row that is owned: where the new one lies. -/
theorem append_where {P : Program} (w : World) (t ty e : TypeId) (i : TypeInfo) (z : Value) (size bytes : Nat) (ht : P.underlying t = some (.slice e)) (hi : P.info? e = some i) (hz : i.zero = some z)
    (hsize : i.size = size) (hby : i.bytes = bytes) (hzs : z.cells.size = size) (hsz : 0 < size)
    (v : Value) (n : Nat) (xs : List Value) (hown : w.ownsRow 0 e size v n xs)
    (a : Addr) (m c : Nat) (news : List Value) (hl : news.length = m * size) (hnews : ∀ j u, news[j]? = some u → w.cell? (a.add j) = some u) (h1 : ∀ u ∈ news, u.oneCell' = true)
    (h63 : n + m ≤ maxLen) (hbytes : (n + m) * bytes ≤ 140737488355328) :
    ∃ v' w', (Builtin.append_ #[t, t] ty #[v, .slice (some a) m c]).run P w = .ok v' w' ∧ w'.ownsRow 0 e size v' (n + m) (xs ++ news) ∧ w.grownBy w' v.ownBlock ∧ (∀ k, v'.ownBlock = some k → v.ownBlock = some k ∨ w.heap.size ≤ k) := by
  rcases hown.2 with ⟨rfl, rfl⟩ | ⟨g, cap, cur, rfl, hbg, hg, hnc, hcm, hcs, htake⟩
  · obtain ⟨v', w', hr, h2, h3, _⟩ := run_append_own (P := P) w w.heap.size t ty e i z size bytes ht hi hz hsize hby hzs hsz _ 0 xs ⟨hown.1, .inl ⟨rfl, rfl⟩⟩ a m c news hl hnews h1 h63 hbytes (Nat.le_refl _)
    exact ⟨v', w', hr, owns_mono h2 (Nat.zero_le _), h3, fun k hk => .inr (h2.lt k hk).1⟩
  · obtain ⟨v', w', hr, h2, h3, _⟩ := run_append_own (P := P) w 0 t ty e i z size bytes ht hi hz hsize hby hzs hsz _ n xs hown a m c news hl hnews h1 h63 hbytes (Nat.zero_le _)
    refine ⟨v', w', hr, h2, h3, fun k hk => ?_⟩
    by_cases hroom : n + m ≤ cap
    · have hr2 := run_append_room (P := P) w t ty e i ht hi g n cap cur hg a m c news (by rw [hsize]; exact hl) hnews h1 hroom (by rw [hsize, hl, hcs, ← Nat.add_mul]; exact Nat.mul_le_mul_right _ hroom)
      rw [hr2] at hr
      injection hr with e1 e2
      subst e1
      exact .inl hk
    · have hr2 := run_append_grow (P := P) w t ty e i z ht hi hz ⟨g, 0, none⟩ n cap xs (by rw [hsize]; exact hown.1) (hown.cells (g := g) rfl) a m c news (by rw [hsize]; exact hl) hnews (by omega) (by simp only [maxLen] at h63; omega) (growslice_fits (by omega) (by rw [hby]; exact hbytes))
      rw [hr2] at hr
      injection hr with e1 e2
      subst e1
      right
      simp only [Value.ownBlock] at hk
      injection hk with hk
      omega
theorem wpList_append_where {P : Program} {ops : Array Oper} {rest : List Oper} {o : Oper} {ac : Act} {w : World} {Q : Exit → Act → World → Prop} (hgd : o.guard = none) (s x : Operand) (t : TypeId)
    (ho : o.op = .call { callee := .builtin .append, args := #[s, x], argTypes := #[t, t] })
    (e : TypeId) (i : TypeInfo) (z : Value) (size bytes : Nat) (ht : P.underlying t = some (.slice e)) (hi : P.info? e = some i) (hz : i.zero = some z)
    (hsize : i.size = size) (hby : i.bytes = bytes) (hzs : z.cells.size = size) (hsz : 0 < size)
    (v : Value) (n : Nat) (xs : List Value) (hs : ac.eval s = v) (hown : w.ownsRow 0 e size v n xs)
    (a : Addr) (m c : Nat) (news : List Value) (hx : ac.eval x = .slice (some a) m c) (hl : news.length = m * size) (hnews : ∀ j u, news[j]? = some u → w.cell? (a.add j) = some u) (h1 : ∀ u ∈ news, u.oneCell' = true)
    (h63 : n + m ≤ maxLen) (hbytes : (n + m) * bytes ≤ 140737488355328)
    (h : ∀ v' w', w'.ownsRow 0 e size v' (n + m) (xs ++ news) → w.grownBy w' v.ownBlock → (∀ k, v'.ownBlock = some k → v.ownBlock = some k ∨ w.heap.size ≤ k) → wpList P ops Q rest (ac.put o.dst v') w') : wpList P ops Q (o :: rest) ac w :=
  wpList_plain hgd fun K hK => by
    obtain ⟨v', w', hr, h2, h3, h4⟩ := append_where (P := P) w t o.type e i z size bytes ht hi hz hsize hby hzs hsz v n xs hown a m c news hl hnews h1 h63 hbytes
    unfold Oper.wp execOp
    simp only [ho, resolve, invoke, builtin, Sem.run_bind, Sem.run_pure, Result.andThen_ok, List.map_toArray, List.map_cons, List.map_nil, hs, hx, hr]
    exact hK _ _ (h v' w' h2 h3 h4)
theorem info78 : (Try.prog.info? 78).map (fun i => (i.zero, i.size, i.bytes)) = some (some (.pointer none), 1, 8) := by kernel_rfl
end Go.Proofs.Ytimdaceidhdaeaa

namespace Go.Proofs.Ytimdaceidhdaeaa
open Go.RowKit Go.Proofs
def uptr (ub : Nat) : Value := .pointer (some ⟨ub, 0, none⟩)
set_option maxHeartbeats 1000000 in
theorem units_put (b o : Nat) (v : Value) (us : List Nat) (sb ub : Nat) (w : World) (hv : w.cell? ⟨b, o, none⟩ = some v) (hf : w.frozen? ⟨b, o, none⟩ = false) (hown : w.ownsRow 0 78 1 v us.length (us.map uptr))
    (hne : v.ownBlock ≠ some b) (hs : w.cell? ⟨sb, 0, none⟩ = some (uptr ub)) (hlen : us.length ≤ 1000000) :
    Calls Try.prog 33 #[.pointer (some ⟨b, o, none⟩), .slice (some ⟨sb, 0, none⟩) 1 1] w fun r w' => r = .returned (.tuple #[]) ∧ ∃ v', w'.cell? ⟨b, o, none⟩ = some v' ∧
      w'.ownsRow 0 78 1 v' (us.length + 1) ((us ++ [ub]).map uptr) ∧ Kp (fun k => k = b ∨ v.ownBlock = some k) w w' ∧ (∀ k, v'.ownBlock = some k → v.ownBlock = some k ∨ w.heap.size ≤ k) ∧ (∀ C t, w.heap[b]? = some (.cells C t (0, 0)) → w'.heap[b]? = some (.cells (C.setIfInBounds o v') t (0, 0))) := by
  obtain ⟨i0, hi, hz0, hz1, hz2⟩ := info_parts info78
  have HI := Bx.mk (And.intro hi (And.intro hz0 (And.intro hz1 hz2)))
  clear hi hz0 hz1 hz2
  have HW := Lib.hid hown
  have HS := Lib.hid hs
  clear hown hs
  have hbl : b < w.heap.size := World.block_lt_of_cell? w ⟨b, o, none⟩ hv
  go_enter Try.func33, Try.ntmps33
  go_wp2_with (refine wpList_append_where rfl _ _ 69 rfl 78 i0 _ 1 8 Try.underlying69 HI.out.1 HI.out.2.1 HI.out.2.2.1 HI.out.2.2.2 rfl (by decide) v us.length (us.map uptr) rfl HW.out ⟨sb, 0, none⟩ 1 1 [uptr ub] rfl rfl ?_ ?_ ?_ ?_ ?_)
  · intro j u h
    cases j with
    | zero => simp at h; subst h; exact HS.out
    | succ j => simp at h
  · intro u h; simp at h; subst h; rfl
  · unfold maxLen; omega
  · omega
  intro v' w' h2 h3 h4
  obtain ⟨g, cap, rfl⟩ : ∃ g cap, v' = .slice (some ⟨g, 0, none⟩) (us.length + 1) cap := by
    rcases h2.2 with ⟨_, h⟩ | ⟨g, cap, _, rfl, _⟩
    · omega
    · exact ⟨g, cap, rfl⟩
  have hvb : some b ≠ v.ownBlock := fun e => hne e.symm
  have hv' : w'.cell? ⟨b, o, none⟩ = some v := h3.cell hv hvb
  have hf' : w'.frozen? ⟨b, o, none⟩ = false := (World.frozen?_of_block (h3.block b hbl hvb)).trans hf
  have hgb : g ≠ b := fun e => by
    rcases h4 g rfl with h | h
    · exact hne (by rw [h, e])
    · omega
  have HBk := Bx.mk (fun (C : Array Value) (t : TypeId) (hC : w.heap[b]? = some (.cells C t (0, 0))) => (h3.block b hbl hvb).trans hC)
  have H2 := Lib.hid h2
  have H3 := Lib.hid h3
  have H4 := Lib.hid h4
  clear hv hf h2 h3 h4 hvb hne
  go_wp2_with fail
  refine bodyPost_end (results_none rfl _ _ _) rfl ⟨rfl, _, ?_, ?_, ?_, H4.out, fun C t hC => setCell_block (HBk.out C t hC) o _⟩
  · exact World.cell?_setCell_same _ _ _ hv'
  · rw [List.map_append]
    exact H2.out.kept (grown_setCell (p := ⟨b, o, none⟩) _) (by right; intro e; injection e with e; exact hgb e)
  · refine Kp.trans ⟨H3.out.os, H3.out.tape, H3.out.output, H3.out.size, fun k hk hn => H3.out.block k hk (fun e => hn (Or.inr e.symm))⟩ (Kp.setCell (F := fun k => k = b ∨ v.ownBlock = some k) (p := ⟨b, o, none⟩) (Or.inl rfl) _)
end Go.Proofs.Ytimdaceidhdaeaa

namespace Go.Proofs.Ytimdaceidhdaeaa
open Go.RowKit Go.Proofs
/-- A note. -/
structure No where
  u : Int
  b : Int
  v : Int
  whole : Bool
  ack : Bool
  e : En
  p : Po
def No.cells (n : No) : List Value := [I n.u, I n.b, I n.v, .bool n.whole, .bool n.ack] ++ (n.e.cells ++ n.p.cells)
def No.zero : No := ⟨0, 0, 0, false, false, En.zero, Po.zero⟩
def No.val (n : No) : Value := .agg n.cells.toArray
theorem En.cells_len (e : En) : e.cells.length = 7 := rfl
theorem No.cells_len (n : No) (h : n.p.ok) : n.cells.length = 342 := by simp [No.cells, En.cells_len, Po.cells_len _ h]
theorem zero86 (w : World) : (zeroValue 86).run Try.prog w = .ok (.agg No.zero.cells.toArray) w := by kernel_rfl
theorem size86 (n : No) (h : n.p.ok) : (Try.prog.info? 86).map (·.size) = some n.cells.length := by rw [n.cells_len h]; kernel_rfl
theorem size86s (n : No) (h : n.p.ok) : (Try.prog.info? 86).map (·.size) = some n.cells.toArray.size := by rw [List.size_toArray, n.cells_len h]; kernel_rfl
theorem En.one (e : En) : ∀ v ∈ e.cells, v.oneCell' = true := by
  intro v hv
  simp [En.cells] at hv
  rcases hv with rfl | rfl | rfl | rfl | rfl | rfl | rfl <;> rfl
theorem No.one (n : No) : n.cells.toArray.all (·.oneCell') = true := by
  apply all_oneCell_toArray
  intro v hv
  unfold No.cells at hv
  rcases List.mem_append.1 hv with hv | hv
  · simp at hv; rcases hv with rfl | rfl | rfl | rfl | rfl <;> rfl
  · rcases List.mem_append.1 hv with hv | hv
    · exact En.one _ v hv
    · have := Po.one n.p
      rw [Array.all_eq_true_iff_forall_mem] at this
      exact this v (by simpa using hv)
theorem note_range {W : World} {b : Nat} {n : No} {t : TypeId} (h : W.heap[b]? = some (.cells n.cells.toArray t (0, 0))) : W.rangeAt b 0 n.cells := fun j v hv => by
  rw [cell_of_row _ _ _ _ _ _ h, Nat.zero_add]; simpa using hv
end Go.Proofs.Ytimdaceidhdaeaa

namespace Go.Proofs.Ytimdaceidhdaeaa
open Go.RowKit Go.Proofs
set_option maxHeartbeats 1000000 in
set_option maxRecDepth 10000 in
theorem notes_at_in (b o g n cap : Nat) (i : Nat) (no : No) (w : World) (hs : w.cell? ⟨b, o, none⟩ = some (.slice (some ⟨g, 0, none⟩) n cap)) (hi : i < n) (hp : no.p.ok) (hr : w.rangeAt g (i * 342) no.cells) (hg : g < w.heap.size) :
    Calls Try.prog 37 #[.pointer (some ⟨b, o, none⟩), .int .i64 i] w fun r w' => r = .returned (.tuple #[no.val, .bool true]) ∧ Below w.heap.size w w' := by
  have hz := fun w => zero86 w
  have d0 : decide ((i : Int) < 0) = false := decide_eq_false (by omega)
  have d1 : decide ((n : Int) ≤ (i : Int)) = false := decide_eq_false (by omega)
  have k0 : (0 : Int) ≤ (i : Int) := by omega
  have hbl : b < w.heap.size := World.block_lt_of_cell? w ⟨b, o, none⟩ hs
  have HA := heap_alloc_new w (.cells No.zero.cells.toArray 86)
  have HR := Lib.hid (show (w.alloc (.cells No.zero.cells.toArray 86)).rangeAt g (i * 342) no.cells from fun j v hv => (World.cell?_of_block (Below.heap_alloc w _ g hg)).trans (hr j v hv))
  have HT := Lib.hid (there_of_block HA 0 no.cells.toArray.size (by rw [List.size_toArray, No.cells_len _ hp, List.size_toArray, No.cells_len _ Po.zero_ok]; decide))
  have HZ := Lib.hid (row_stored HA (vs := no.cells) (by rw [No.cells_len _ hp, List.size_toArray, No.cells_len _ Po.zero_ok]))
  have HI := Lib.hid (size86 no hp)
  have HI2 := Lib.hid (size86s no hp)
  have HO := Lib.hid (No.one no)
  clear HA hr hp
  go_enter Try.func37, Try.ntmps37
  go_wp2_with (first
    | (refine wpList_load_mid rfl 86 _ rfl g (i * 342) rfl no.cells _ HR.out Try.underlying86 rfl HI.out ?_)
    | (refine wpList_store_mid rfl 86 _ _ rfl w.heap.size 0 _ rfl rfl HT.out HI2.out HO.out ?_))
  exact bodyPost_ret (results_cell_tmp Try.results37 _ _ w.heap.size _ _ (.bool true) rfl rfl (note_range HZ.out) Try.underlying86 rfl HI.out) rfl ⟨rfl, below_setCells ((Below.refl _ _).alloc (Nat.le_refl _) _) (Nat.le_refl _) _ _⟩
set_option maxHeartbeats 1000000 in
set_option maxRecDepth 10000 in
theorem notes_at_out (b o n cap : Nat) (a : Option Addr) (i : Int) (w : World) (hs : w.cell? ⟨b, o, none⟩ = some (.slice a n cap)) (hi : i < 0 ∨ (n : Int) ≤ i) :
    Calls Try.prog 37 #[.pointer (some ⟨b, o, none⟩), .int .i64 i] w fun r w' => r = .returned (.tuple #[No.zero.val, .bool false]) ∧ Below w.heap.size w w' := by
  have hz := fun w => zero86 w
  have hbl : b < w.heap.size := World.block_lt_of_cell? w ⟨b, o, none⟩ hs
  have HA := heap_alloc_new w (.cells No.zero.cells.toArray 86)
  have HA1 : ((w.alloc (.cells No.zero.cells.toArray 86)).alloc (.cells No.zero.cells.toArray 86)).heap[w.heap.size]? = some (.cells No.zero.cells.toArray 86 (0, 0)) := heap_old_at (by simp) HA
  have HB := heap_new_at (w := w.alloc (.cells No.zero.cells.toArray 86)) (o := .cells No.zero.cells.toArray 86) (k := w.heap.size + 1) (by simp)
  have HR := Lib.hid (note_range HB)
  have HT := Lib.hid (there_of_block HA1 0 No.zero.cells.toArray.size (by simp))
  have HZ := Lib.hid (row_stored HA1 (vs := No.zero.cells) (by simp))
  have HI := Lib.hid (size86 No.zero Po.zero_ok)
  have HI2 := Lib.hid (size86s No.zero Po.zero_ok)
  have HO := Lib.hid (No.one No.zero)
  clear HA HA1 HB
  by_cases c : i < 0
  · have d0 : decide (i < 0) = true := decide_eq_true c
    go_enter Try.func37, Try.ntmps37
    go_wp2_with (first
      | (refine wpList_load_mid rfl 86 _ rfl (w.heap.size + 1) 0 rfl No.zero.cells _ HR.out Try.underlying86 rfl HI.out ?_)
      | (refine wpList_store_mid rfl 86 _ _ rfl w.heap.size 0 _ rfl rfl HT.out HI2.out HO.out ?_))
    exact bodyPost_ret (results_cell_tmp Try.results37 _ _ w.heap.size _ _ (.bool false) rfl rfl (note_range HZ.out) Try.underlying86 rfl HI.out) rfl ⟨rfl, below_setCells (((Below.refl _ _).alloc (Nat.le_refl _) _).alloc (by simp) _) (Nat.le_refl _) _ _⟩
  · have d0 : decide (i < 0) = false := decide_eq_false c
    have d1 : decide ((n : Int) ≤ i) = true := decide_eq_true (by omega)
    go_enter Try.func37, Try.ntmps37
    go_wp2_with (first
      | (refine wpList_load_mid rfl 86 _ rfl (w.heap.size + 1) 0 rfl No.zero.cells _ HR.out Try.underlying86 rfl HI.out ?_)
      | (refine wpList_store_mid rfl 86 _ _ rfl w.heap.size 0 _ rfl rfl HT.out HI2.out HO.out ?_))
    exact bodyPost_ret (results_cell_tmp Try.results37 _ _ w.heap.size _ _ (.bool false) rfl rfl (note_range HZ.out) Try.underlying86 rfl HI.out) rfl ⟨rfl, below_setCells (((Below.refl _ _).alloc (Nat.le_refl _) _).alloc (by simp) _) (Nat.le_refl _) _ _⟩
end Go.Proofs.Ytimdaceidhdaeaa

namespace Go.Proofs.Ytimdaceidhdaeaa
open Go.RowKit Go.Proofs
def notes (l : List No) : List Value := l.flatMap No.cells
theorem info86 : (Try.prog.info? 86).map (fun i => (i.zero, i.size, i.bytes)) = some (some (.agg No.zero.cells.toArray), 342, 2728) := by kernel_rfl
theorem notes_one (l : List No) : ∀ v ∈ notes l, v.oneCell' = true := by
  intro v hv
  obtain ⟨n, _, hv⟩ := List.mem_flatMap.1 hv
  have := No.one n
  rw [Array.all_eq_true_iff_forall_mem] at this
  exact this v (by simpa using hv)
theorem notes_len (l : List No) (h : ∀ n ∈ l, n.p.ok) : (notes l).length = l.length * 342 := by
  induction l with
  | nil => rfl
  | cons a l ih =>
    have := ih (fun n hn => h n (List.mem_cons_of_mem _ hn))
    simp only [notes, List.flatMap_cons, List.length_append] at this ⊢
    rw [this, No.cells_len a (h a (List.mem_cons_self ..)), List.length_cons]; omega
set_option maxHeartbeats 1000000 in
set_option maxRecDepth 10000 in
theorem notes_put (b o : Nat) (v : Value) (l new : List No) (ad : Addr) (c : Nat) (w : World) (hv : w.cell? ⟨b, o, none⟩ = some v) (hf : w.frozen? ⟨b, o, none⟩ = false) (hown : w.ownsRow 0 86 342 v l.length (notes l))
    (hne : v.ownBlock ≠ some b) (hs : ∀ j u, (notes new)[j]? = some u → w.cell? (ad.add j) = some u) (hok : ∀ n ∈ new, n.p.ok) (hlen : l.length + new.length ≤ 1000000) (hpos : 0 < l.length + new.length) :
    Calls Try.prog 35 #[.pointer (some ⟨b, o, none⟩), .slice (some ad) new.length c] w fun r w' => r = .returned (.tuple #[]) ∧ ∃ v', w'.cell? ⟨b, o, none⟩ = some v' ∧
      w'.ownsRow 0 86 342 v' (l.length + new.length) (notes (l ++ new)) ∧ Kp (fun k => k = b ∨ v.ownBlock = some k) w w' ∧ (∀ k, v'.ownBlock = some k → v.ownBlock = some k ∨ w.heap.size ≤ k) := by
  obtain ⟨i0, hi, hz0, hz1, hz2⟩ := info_parts info86
  have HI := Bx.mk (And.intro hi (And.intro hz0 (And.intro hz1 hz2)))
  clear hi hz0 hz1 hz2
  have HW := Lib.hid hown
  have HS := Bx.mk hs
  have HK := Bx.mk hok
  clear hown hs hok
  have hbl : b < w.heap.size := World.block_lt_of_cell? w ⟨b, o, none⟩ hv
  go_enter Try.func35, Try.ntmps35
  go_wp2_with (refine wpList_append_where rfl _ _ 72 rfl 86 i0 _ 342 2728 Try.underlying72 HI.out.1 HI.out.2.1 HI.out.2.2.1 HI.out.2.2.2 ?_ (by decide) v l.length (notes l) rfl HW.out ad new.length c (notes new) rfl (notes_len _ HK.out) HS.out (notes_one _) ?_ ?_ ?_)
  · show (No.zero.cells.toArray).size = 342
    rw [List.size_toArray, No.cells_len _ Po.zero_ok]
  · unfold maxLen; omega
  · omega
  intro v' w' h2 h3 h4
  obtain ⟨g, cap, rfl⟩ : ∃ g cap, v' = .slice (some ⟨g, 0, none⟩) (l.length + new.length) cap := by
    rcases h2.2 with ⟨_, h⟩ | ⟨g, cap, _, rfl, _⟩
    · omega
    · exact ⟨g, cap, rfl⟩
  have hvb : some b ≠ v.ownBlock := fun e => hne e.symm
  have hv' : w'.cell? ⟨b, o, none⟩ = some v := h3.cell hv hvb
  have hf' : w'.frozen? ⟨b, o, none⟩ = false := (World.frozen?_of_block (h3.block b hbl hvb)).trans hf
  have hgb : g ≠ b := fun e => by
    rcases h4 g rfl with h | h
    · exact hne (by rw [h, e])
    · omega
  have H2 := Lib.hid h2
  have H3 := Lib.hid h3
  have H4 := Lib.hid h4
  clear hv hf h2 h3 h4 hvb hne
  go_wp2_with fail
  refine bodyPost_end (results_none rfl _ _ _) rfl ⟨rfl, _, ?_, ?_, ?_, H4.out⟩
  · exact World.cell?_setCell_same _ _ _ hv'
  · have e : notes (l ++ new) = notes l ++ notes new := by simp [notes]
    rw [e]
    exact H2.out.kept (grown_setCell (p := ⟨b, o, none⟩) _) (by right; intro e; injection e with e; exact hgb e)
  · refine Kp.trans ⟨H3.out.os, H3.out.tape, H3.out.output, H3.out.size, fun k hk hn => H3.out.block k hk (fun e => hn (Or.inr e.symm))⟩ (Kp.setCell (F := fun k => k = b ∨ v.ownBlock = some k) (p := ⟨b, o, none⟩) (Or.inl rfl) _)
end Go.Proofs.Ytimdaceidhdaeaa

namespace Go.Proofs.Ytimdaceidhdaeaa
open Go.RowKit Go.Proofs
theorem append_none {P : Program} (w : World) (t ty e : TypeId) (i : TypeInfo) (ht : P.underlying t = some (.slice e)) (hi : P.info? e = some i)
    (v : Value) (n : Nat) (xs : List Value) (hown : w.ownsRow 0 e i.size v n xs) : (Builtin.append_ #[t, t] ty #[v, .slice none 0 0]).run P w = .ok v w := by
  rcases hown.2 with ⟨rfl, rfl⟩ | ⟨g, cap, cur, rfl, hbg, hg, hnc, hcm, hcs, htake⟩
  · simp [Builtin.append_, run_underlying ht, sizeOf, typeInfo, hi, Builtin.lenOf, Builtin.firstCells, loadCells, loadCellsFrom]
  · simp [Builtin.append_, run_underlying ht, sizeOf, typeInfo, hi, Builtin.lenOf, Builtin.firstCells, loadCells, loadCellsFrom, hnc, storeCells]
theorem wpList_append_none {P : Program} {ops : Array Oper} {rest : List Oper} {o : Oper} {ac : Act} {w : World} {Q : Exit → Act → World → Prop} (hgd : o.guard = none) (s x : Operand) (t : TypeId)
    (ho : o.op = .call { callee := .builtin .append, args := #[s, x], argTypes := #[t, t] }) (e : TypeId) (i : TypeInfo) (ht : P.underlying t = some (.slice e)) (hi : P.info? e = some i)
    (v : Value) (n : Nat) (xs : List Value) (hs : ac.eval s = v) (hown : w.ownsRow 0 e i.size v n xs) (hx : ac.eval x = .slice none 0 0)
    (h : wpList P ops Q rest (ac.put o.dst v) w) : wpList P ops Q (o :: rest) ac w :=
  wpList_plain hgd fun K hK => by
    have hr := append_none (P := P) w t o.type e i ht hi v n xs hown
    unfold Oper.wp execOp
    simp only [ho, resolve, invoke, builtin, Sem.run_bind, Sem.run_pure, Result.andThen_ok, List.map_toArray, List.map_cons, List.map_nil, hs, hx, hr]
    exact hK _ _ h
set_option maxHeartbeats 1000000 in
set_option maxRecDepth 10000 in
theorem notes_put_none (b o : Nat) (v : Value) (l : List No) (w : World) (hv : w.cell? ⟨b, o, none⟩ = some v) (hf : w.frozen? ⟨b, o, none⟩ = false) (hown : w.ownsRow 0 86 342 v l.length (notes l))
    (hne : v.ownBlock ≠ some b) :
    Calls Try.prog 35 #[.pointer (some ⟨b, o, none⟩), .slice none 0 0] w fun r w' => r = .returned (.tuple #[]) ∧ w'.cell? ⟨b, o, none⟩ = some v ∧
      w'.ownsRow 0 86 342 v l.length (notes l) ∧ Kp (fun k => k = b) w w' := by
  obtain ⟨i0, hi, hz0, hz1, hz2⟩ := info_parts info86
  have HI := Lib.hid hi
  have HW := Lib.hid (show w.ownsRow 0 86 i0.size v l.length (notes l) by rw [hz1]; exact hown)
  have HV := Lib.hid hv
  have HO := Lib.hid hown
  clear hi hz0 hz1 hz2
  rcases hown.2 with ⟨rfl, h⟩ | ⟨g, cap, cur, rfl, _⟩
  · clear hown h
    go_enter Try.func35, Try.ntmps35
    go_wp2_with (refine wpList_append_none rfl _ _ 72 rfl 86 i0 Try.underlying72 HI.out _ l.length (notes l) rfl HW.out rfl ?_)
    refine bodyPost_end (results_none rfl _ _ _) rfl ⟨rfl, World.cell?_setCell_same _ _ _ HV.out, HO.out.kept (grown_setCell (p := ⟨b, o, none⟩) _) (Or.inl rfl), Kp.setCell (F := fun k => k = b) (p := ⟨b, o, none⟩) rfl _⟩
  · clear hown
    have hgb : g ≠ b := fun e => hne (by rw [← e]; rfl)
    go_enter Try.func35, Try.ntmps35
    go_wp2_with (refine wpList_append_none rfl _ _ 72 rfl 86 i0 Try.underlying72 HI.out _ l.length (notes l) rfl HW.out rfl ?_)
    refine bodyPost_end (results_none rfl _ _ _) rfl ⟨rfl, World.cell?_setCell_same _ _ _ HV.out, HO.out.kept (grown_setCell (p := ⟨b, o, none⟩) _) (by right; intro e; injection e with e; exact hgb e), Kp.setCell (F := fun k => k = b) (p := ⟨b, o, none⟩) rfl _⟩
end Go.Proofs.Ytimdaceidhdaeaa

namespace Go.Proofs.Ytimdaceidhdaeaa
open Go.RowKit Go.Proofs
/-- A slice at the head of a block of its own; the block may be longer. -/
def RowOf (w : World) (e : TypeId) (size : Nat) (v : Value) (n : Nat) (xs : List Value) : Prop :=
  xs.length = n * size ∧ ((v = .slice none 0 0 ∧ n = 0) ∨
   ∃ g cap cur, v = .slice (some ⟨g, 0, none⟩) n cap ∧ w.heap[g]? = some (.cells cur e (0, 0)) ∧ n ≤ cap ∧ cap ≤ maxLen ∧ cap * size ≤ cur.size ∧ cur.toList.take (n * size) = xs)
theorem RowOf.kept {w w' : World} {e : TypeId} {size : Nat} {v : Value} {n : Nat} {xs : List Value} (h : RowOf w e size v n xs) (hk : ∀ k, v.ownBlock = some k → w'.heap[k]? = w.heap[k]?) : RowOf w' e size v n xs := by
  refine ⟨h.1, ?_⟩
  rcases h.2 with hn | ⟨g, cap, cur, rfl, hg, rest⟩
  · exact .inl hn
  · exact .inr ⟨g, cap, cur, rfl, (hk g rfl).trans hg, rest⟩
theorem RowOf.cells {w : World} {e : TypeId} {size : Nat} {v : Value} {n : Nat} {xs : List Value} (h : RowOf w e size v n xs) {g : Nat} (hg : v.ownBlock = some g) : ∀ j u, xs[j]? = some u → w.cell? ⟨g, j, none⟩ = some u := by
  intro j u hu
  rcases h.2 with ⟨rfl, _⟩ | ⟨g', cap, cur, rfl, hgg, _, _, _, ht⟩
  · simp [Value.ownBlock] at hg
  · simp only [Value.ownBlock] at hg
    injection hg with hg
    have hg : g' = g := hg
    subst hg
    rw [cell_of_row _ _ _ _ _ _ hgg, ← Array.getElem?_toList]
    rw [← ht, List.getElem?_take] at hu
    split at hu
    · exact hu
    · simp at hu
theorem RowOf.lt {w : World} {e : TypeId} {size : Nat} {v : Value} {n : Nat} {xs : List Value} (h : RowOf w e size v n xs) : ∀ k, v.ownBlock = some k → k < w.heap.size := by
  intro k hk
  rcases h.2 with ⟨rfl, _⟩ | ⟨g, cap, cur, rfl, hg, _⟩
  · simp [Value.ownBlock] at hk
  · simp only [Value.ownBlock] at hk
    injection hk with hk
    have hk : g = k := hk
    subst hk
    exact heap_lt hg
theorem row_made {w : World} {e : TypeId} {size : Nat} (z : Value) (hzs : z.cells.size = size) (n old : Nat) (xs : List Value) (hl : xs.length = n * size) (h63 : n ≤ maxLen) (A B : List Value) (hx : xs = A ++ B) :
    RowOf (w.drew.alloc (.cells (A.toArray ++ B.toArray ++ Builtin.zeroCells z.cells (grownCap w n old e - n)) e)) e size (.slice (some ⟨w.heap.size, 0, none⟩) n (grownCap w n old e)) n xs := by
  have hge := grownCap_ge w n old e
  refine ⟨hl, .inr ⟨w.heap.size, _, _, rfl, heap_alloc_new w.drew _, hge, grownCap_le_maxLen w n old e h63, ?_, ?_⟩⟩
  · have hab : A.length + B.length = n * size := by rw [← List.length_append, ← hx, hl]
    simp only [Array.size_append, List.size_toArray, size_zeroCells, hzs, hab, ← Nat.add_mul]
    exact Nat.mul_le_mul_right _ (by omega)
  · simp only [Array.toList_append]
    rw [← hx, ← hl]
    exact List.take_left
/-- The append to such a row: where the new one lies, what else is as it was. -/
theorem rowOf_append {P : Program} (w : World) (t ty e : TypeId) (i : TypeInfo) (z : Value) (size bytes : Nat) (ht : P.underlying t = some (.slice e)) (hi : P.info? e = some i) (hz : i.zero = some z)
    (hsize : i.size = size) (hby : i.bytes = bytes) (hzs : z.cells.size = size)
    (v : Value) (n : Nat) (xs : List Value) (hown : RowOf w e size v n xs)
    (a : Addr) (m c : Nat) (news : List Value) (hl : news.length = m * size) (hnews : ∀ j u, news[j]? = some u → w.cell? (a.add j) = some u) (h1 : ∀ u ∈ news, u.oneCell' = true)
    (h63 : n + m ≤ maxLen) (hbytes : (n + m) * bytes ≤ 140737488355328) (hsz : 0 < size) :
    ∃ v' w', (Builtin.append_ #[t, t] ty #[v, .slice (some a) m c]).run P w = .ok v' w' ∧ RowOf w' e size v' (n + m) (xs ++ news) ∧ w.grownBy w' v.ownBlock ∧ (∀ k, v'.ownBlock = some k → v.ownBlock = some k ∨ w.heap.size ≤ k) := by
  rcases hown.2 with ⟨rfl, rfl⟩ | ⟨g, cap, cur, rfl, hg, hnc, hcm, hcs, htake⟩
  · obtain ⟨v', w', hr, h2, h3, _⟩ := run_append_own (P := P) w w.heap.size t ty e i z size bytes ht hi hz hsize hby hzs hsz _ 0 xs ⟨hown.1, .inl ⟨rfl, rfl⟩⟩ a m c news hl hnews h1 h63 hbytes (Nat.le_refl _)
    exact ⟨v', w', hr, ⟨h2.1, h2.2.imp id (fun ⟨g, cap, cur, hv, _, hg, a1, a2, a3, a4⟩ => ⟨g, cap, cur, hv, hg, a1, a2, by omega, a4⟩)⟩, h3, fun k hk => .inr (h2.lt k hk).1⟩
  · by_cases hroom : n + m ≤ cap
    · have hfit : n * i.size + news.length ≤ cur.size := by
        rw [hl, hsize, ← Nat.add_mul]; exact Nat.le_trans (Nat.mul_le_mul_right _ hroom) hcs
      have hr2 := run_append_room (P := P) w t ty e i ht hi g n cap cur hg a m c news (by rw [hsize]; exact hl) hnews h1 hroom hfit
      refine ⟨_, _, hr2, ⟨by rw [List.length_append, hown.1, hl, Nat.add_mul], .inr ⟨g, cap, _, rfl, setRow_heap w g cur _ e _ hg, hroom, hcm, ?_, ?_⟩⟩, ⟨rfl, rfl, rfl, by simp, fun k _ hk => setRow_other w g k _ (fun e => hk (by simp [Value.ownBlock, e]))⟩, fun k hk => .inl hk⟩
      · simp only [List.size_toArray, List.length_append, List.length_take, List.length_drop, Array.length_toList]
        omega
      · have hlen : (xs ++ news).length = (n + m) * size := by rw [List.length_append, hown.1, hl, Nat.add_mul]
        rw [hsize, htake, ← hlen]
        exact List.take_left
    · have hr2 := run_append_grow (P := P) w t ty e i z ht hi hz ⟨g, 0, none⟩ n cap xs (by rw [hsize]; exact hown.1) (fun j u hu => by have := hown.cells (g := g) rfl j u hu; simpa [Addr.add_lit] using this) a m c news (by rw [hsize]; exact hl) hnews (by omega) (by simp only [maxLen] at h63; omega) (growslice_fits (by omega) (by rw [hby]; exact hbytes))
      refine ⟨_, _, hr2, row_made z hzs (n + m) cap (xs ++ news) (by rw [List.length_append, hown.1, hl, Nat.add_mul]) h63 xs news rfl, ⟨rfl, rfl, rfl, by simp, fun k hk _ => Below.heap_alloc w.drew _ k hk⟩, fun k hk => .inr ?_⟩
      simp only [Value.ownBlock] at hk
      injection hk with hk
      omega
end Go.Proofs.Ytimdaceidhdaeaa

namespace Go.Proofs.Ytimdaceidhdaeaa
open Go.RowKit Go.Proofs
theorem wpList_append_row {P : Program} {ops : Array Oper} {rest : List Oper} {o : Oper} {ac : Act} {w : World} {Q : Exit → Act → World → Prop} (hgd : o.guard = none) (s x : Operand) (t : TypeId)
    (ho : o.op = .call { callee := .builtin .append, args := #[s, x], argTypes := #[t, t] })
    (e : TypeId) (i : TypeInfo) (z : Value) (size bytes : Nat) (ht : P.underlying t = some (.slice e)) (hi : P.info? e = some i) (hz : i.zero = some z)
    (hsize : i.size = size) (hby : i.bytes = bytes) (hzs : z.cells.size = size) (hsz : 0 < size)
    (v : Value) (n : Nat) (xs : List Value) (hs : ac.eval s = v) (hown : RowOf w e size v n xs)
    (a : Addr) (m c : Nat) (news : List Value) (hx : ac.eval x = .slice (some a) m c) (hl : news.length = m * size) (hnews : ∀ j u, news[j]? = some u → w.cell? (a.add j) = some u) (h1 : ∀ u ∈ news, u.oneCell' = true)
    (h63 : n + m ≤ maxLen) (hbytes : (n + m) * bytes ≤ 140737488355328)
    (h : ∀ v' w', RowOf w' e size v' (n + m) (xs ++ news) → w.grownBy w' v.ownBlock → (∀ k, v'.ownBlock = some k → v.ownBlock = some k ∨ w.heap.size ≤ k) → wpList P ops Q rest (ac.put o.dst v') w') : wpList P ops Q (o :: rest) ac w :=
  wpList_plain hgd fun K hK => by
    obtain ⟨v', w', hr, h2, h3, h4⟩ := rowOf_append (P := P) w t o.type e i z size bytes ht hi hz hsize hby hzs v n xs hown a m c news hl hnews h1 h63 hbytes hsz
    unfold Oper.wp execOp
    simp only [ho, resolve, invoke, builtin, Sem.run_bind, Sem.run_pure, Result.andThen_ok, List.map_toArray, List.map_cons, List.map_nil, hs, hx, hr]
    exact hK _ _ (h v' w' h2 h3 h4)
set_option maxHeartbeats 1000000 in
set_option maxRecDepth 10000 in
theorem note_put (b o : Nat) (v : Value) (l new : List No) (ad : Addr) (c : Nat) (w : World) (hv : w.cell? ⟨b, o, none⟩ = some v) (hf : w.frozen? ⟨b, o, none⟩ = false) (hown : RowOf w 86 342 v l.length (notes l))
    (hne : v.ownBlock ≠ some b) (hs : ∀ j u, (notes new)[j]? = some u → w.cell? (ad.add j) = some u) (hok : ∀ n ∈ new, n.p.ok) (hlen : l.length + new.length ≤ 1000000) (hpos : 0 < l.length + new.length) :
    Calls Try.prog 35 #[.pointer (some ⟨b, o, none⟩), .slice (some ad) new.length c] w fun r w' => r = .returned (.tuple #[]) ∧ ∃ v', w'.cell? ⟨b, o, none⟩ = some v' ∧
      RowOf w' 86 342 v' (l.length + new.length) (notes (l ++ new)) ∧ Kp (fun k => k = b ∨ v.ownBlock = some k) w w' ∧ (∀ k, v'.ownBlock = some k → v.ownBlock = some k ∨ w.heap.size ≤ k) ∧ (∀ C t, w.heap[b]? = some (.cells C t (0, 0)) → w'.heap[b]? = some (.cells (C.setIfInBounds o v') t (0, 0))) := by
  obtain ⟨i0, hi, hz0, hz1, hz2⟩ := info_parts info86
  have HI := Bx.mk (And.intro hi (And.intro hz0 (And.intro hz1 hz2)))
  clear hi hz0 hz1 hz2
  have HW := Lib.hid hown
  have HS := Bx.mk hs
  have HK := Bx.mk hok
  clear hown hs hok
  have hbl : b < w.heap.size := World.block_lt_of_cell? w ⟨b, o, none⟩ hv
  go_enter Try.func35, Try.ntmps35
  go_wp2_with (refine wpList_append_row rfl _ _ 72 rfl 86 i0 _ 342 2728 Try.underlying72 HI.out.1 HI.out.2.1 HI.out.2.2.1 HI.out.2.2.2 ?_ (by decide) v l.length (notes l) rfl HW.out ad new.length c (notes new) rfl (notes_len _ HK.out) HS.out (notes_one _) ?_ ?_ ?_)
  · show (No.zero.cells.toArray).size = 342
    rw [List.size_toArray, No.cells_len _ Po.zero_ok]
  · unfold maxLen; omega
  · omega
  intro v' w' h2 h3 h4
  obtain ⟨g, cap, rfl⟩ : ∃ g cap, v' = .slice (some ⟨g, 0, none⟩) (l.length + new.length) cap := by
    rcases h2.2 with ⟨_, h⟩ | ⟨g, cap, _, rfl, _⟩
    · omega
    · exact ⟨g, cap, rfl⟩
  have hvb : some b ≠ v.ownBlock := fun e => hne e.symm
  have hv' : w'.cell? ⟨b, o, none⟩ = some v := h3.cell hv hvb
  have hf' : w'.frozen? ⟨b, o, none⟩ = false := (World.frozen?_of_block (h3.block b hbl hvb)).trans hf
  have hgb : g ≠ b := fun e => by
    rcases h4 g rfl with h | h
    · exact hne (by rw [h, e])
    · omega
  have HBk := Bx.mk (fun (C : Array Value) (t : TypeId) (hC : w.heap[b]? = some (.cells C t (0, 0))) => (h3.block b hbl hvb).trans hC)
  have H2 := Lib.hid h2
  have H3 := Lib.hid h3
  have H4 := Lib.hid h4
  clear hv hf h2 h3 h4 hvb hne
  go_wp2_with fail
  refine bodyPost_end (results_none rfl _ _ _) rfl ⟨rfl, _, ?_, ?_, ?_, H4.out, fun C t hC => setCell_block (HBk.out C t hC) o _⟩
  · exact World.cell?_setCell_same _ _ _ hv'
  · have e : notes (l ++ new) = notes l ++ notes new := by simp [notes]
    rw [e]
    exact H2.out.kept (fun k hk => Below.heap_setCell _ _ _ _ (fun e => hgb (by injection hk with hk; have hk : g = k := hk; rw [hk]; exact e)))
  · refine Kp.trans ⟨H3.out.os, H3.out.tape, H3.out.output, H3.out.size, fun k hk hn => H3.out.block k hk (fun e => hn (Or.inr e.symm))⟩ (Kp.setCell (F := fun k => k = b ∨ v.ownBlock = some k) (p := ⟨b, o, none⟩) (Or.inl rfl) _)
theorem append_nothing {P : Program} (w : World) (t ty e : TypeId) (i : TypeInfo) (ht : P.underlying t = some (.slice e)) (hi : P.info? e = some i)
    (v : Value) (n : Nat) (xs : List Value) (hown : RowOf w e i.size v n xs) : (Builtin.append_ #[t, t] ty #[v, .slice none 0 0]).run P w = .ok v w := by
  rcases hown.2 with ⟨rfl, rfl⟩ | ⟨g, cap, cur, rfl, hg, hnc, hcm, hcs, htake⟩
  · simp [Builtin.append_, run_underlying ht, sizeOf, typeInfo, hi, Builtin.lenOf, Builtin.firstCells, loadCells, loadCellsFrom]
  · simp [Builtin.append_, run_underlying ht, sizeOf, typeInfo, hi, Builtin.lenOf, Builtin.firstCells, loadCells, loadCellsFrom, hnc, storeCells]
theorem wpList_append_nothing {P : Program} {ops : Array Oper} {rest : List Oper} {o : Oper} {ac : Act} {w : World} {Q : Exit → Act → World → Prop} (hgd : o.guard = none) (s x : Operand) (t : TypeId)
    (ho : o.op = .call { callee := .builtin .append, args := #[s, x], argTypes := #[t, t] }) (e : TypeId) (i : TypeInfo) (ht : P.underlying t = some (.slice e)) (hi : P.info? e = some i)
    (v : Value) (n : Nat) (xs : List Value) (hs : ac.eval s = v) (hown : RowOf w e i.size v n xs) (hx : ac.eval x = .slice none 0 0)
    (h : wpList P ops Q rest (ac.put o.dst v) w) : wpList P ops Q (o :: rest) ac w :=
  wpList_plain hgd fun K hK => by
    have hr := append_nothing (P := P) w t o.type e i ht hi v n xs hown
    unfold Oper.wp execOp
    simp only [ho, resolve, invoke, builtin, Sem.run_bind, Sem.run_pure, Result.andThen_ok, List.map_toArray, List.map_cons, List.map_nil, hs, hx, hr]
    exact hK _ _ h
set_option maxHeartbeats 1000000 in
set_option maxRecDepth 10000 in
theorem note_put_none (b o : Nat) (v : Value) (l : List No) (w : World) (hv : w.cell? ⟨b, o, none⟩ = some v) (hf : w.frozen? ⟨b, o, none⟩ = false) (hown : RowOf w 86 342 v l.length (notes l))
    (hne : v.ownBlock ≠ some b) :
    Calls Try.prog 35 #[.pointer (some ⟨b, o, none⟩), .slice none 0 0] w fun r w' => r = .returned (.tuple #[]) ∧ w'.cell? ⟨b, o, none⟩ = some v ∧
      RowOf w' 86 342 v l.length (notes l) ∧ Kp (fun k => k = b) w w' ∧ (∀ C t, w.heap[b]? = some (.cells C t (0, 0)) → w'.heap[b]? = some (.cells (C.setIfInBounds o v) t (0, 0))) := by
  obtain ⟨i0, hi, hz0, hz1, hz2⟩ := info_parts info86
  have HI := Lib.hid hi
  have HW := Lib.hid (show RowOf w 86 i0.size v l.length (notes l) by rw [hz1]; exact hown)
  have HV := Lib.hid hv
  have HO := Lib.hid hown
  clear hi hz0 hz1 hz2
  rcases hown.2 with ⟨rfl, h⟩ | ⟨g, cap, cur, rfl, _⟩
  · clear hown h
    go_enter Try.func35, Try.ntmps35
    go_wp2_with (refine wpList_append_nothing rfl _ _ 72 rfl 86 i0 Try.underlying72 HI.out _ l.length (notes l) rfl HW.out rfl ?_)
    refine bodyPost_end (results_none rfl _ _ _) rfl ⟨rfl, World.cell?_setCell_same _ _ _ HV.out, HO.out.kept (fun k hk => by simp [Value.ownBlock] at hk), Kp.setCell (F := fun k => k = b) (p := ⟨b, o, none⟩) rfl _, fun C t hC => setCell_block hC o _⟩
  · clear hown
    have hgb : g ≠ b := fun e => hne (by rw [← e]; rfl)
    go_enter Try.func35, Try.ntmps35
    go_wp2_with (refine wpList_append_nothing rfl _ _ 72 rfl 86 i0 Try.underlying72 HI.out _ l.length (notes l) rfl HW.out rfl ?_)
    refine bodyPost_end (results_none rfl _ _ _) rfl ⟨rfl, World.cell?_setCell_same _ _ _ HV.out, HO.out.kept (fun k hk => Below.heap_setCell _ _ _ _ (fun e => hgb (by injection hk with hk; have hk : g = k := hk; rw [hk]; exact e))), Kp.setCell (F := fun k => k = b) (p := ⟨b, o, none⟩) rfl _, fun C t hC => setCell_block hC o _⟩
end Go.Proofs.Ytimdaceidhdaeaa
