/- Proved: lemmas that the law's proof stands on (WheelM). Conditions: as each states. -/
import Derived.Deep.LoopGhost
import Derived.WalkMore
import Derived.Deep.RegionHeld3
import Derived.Deep.AppendLies
import Derived.Test.YtimdaceidhdaeaaLawTwice01
import Derived.Test.YtimdaceidhdaeaaLawTwice04

namespace Go.Proofs.Ytimdaceidhdaeaa
open Go.RowKit Go.Proofs

theorem info166 : (Try.prog.info? 166).map (fun i => (i.zero, i.size)) = some (some (.agg (Array.replicate 127 (.int .i64 0))), 127) := by kernel_rfl

/-- What stands while a wheel is made: the pool's box, the places. -/
structure Env (w wr : World) (p : Po) (W : List Int) : Prop where
  below : Below w.heap.size w wr
  size : w.heap.size + 2 ≤ wr.heap.size
  pool : wr.heap[w.heap.size]? = some (.cells p.cells.toArray 33 (0, 0))
  arr : wr.heap[w.heap.size + 1]? = some (.cells (W.map (Value.int .i64)).toArray 166 (0, 0))
theorem Env.cell {w wr : World} {p : Po} {W : List Int} (h : Env w wr p W) (k : Nat) (hk : k < W.length) : wr.cell? ⟨w.heap.size + 1, k, none⟩ = some (.int .i64 (W.getD k 0)) := by
  rw [cell_of_row _ _ _ _ _ _ h.arr]; simp [List.getD_eq_getElem?_getD, hk]
theorem Env.fz {w wr : World} {p : Po} {W : List Int} (h : Env w wr p W) (k : Nat) : wr.frozen? ⟨w.heap.size + 1, k, none⟩ = false := frozen_of_row _ _ _ _ _ h.arr
theorem Env.set {w wr : World} {p : Po} {W : List Int} (h : Env w wr p W) (k : Nat) (v : Int) : Env w (wr.setCell ⟨w.heap.size + 1, k, none⟩ (.int .i64 v)) p (W.set k v) := by
  refine ⟨h.below.setCell (by simp) _, by simpa [World.setCell] using h.size, ?_, ?_⟩
  · rw [heap_setCell_other _ _ _ _ (by simp)]; exact h.pool
  · rw [heap_setCell_same _ _ _ _ _ _ h.arr, ints_set]
theorem Env.below_to {w wr w2 : World} {p : Po} {W : List Int} (h : Env w wr p W) (hb : Below wr.heap.size wr w2) : Env w w2 p W :=
  ⟨h.below.trans (hb.mono h.below.size), by have := hb.size; have := h.size; omega, by rw [hb.block _ (by have := h.size; omega)]; exact h.pool, by rw [hb.block _ (by have := h.size; omega)]; exact h.arr⟩
theorem Env.far {w wr : World} {p : Po} {W : List Int} (h : Env w wr p W) (a : Addr) (ha : w.heap.size + 2 ≤ a.block) (v : Value) : Env w (wr.setCell a v) p W := by
  refine ⟨h.below.setCell (by omega) _, by simpa [World.setCell] using h.size, ?_, ?_⟩
  · rw [heap_setCell_other _ _ _ _ (by omega)]; exact h.pool
  · rw [heap_setCell_other _ _ _ _ (by omega)]; exact h.arr

theorem fill_set (k : Nat) (h : k < 127) : (List.replicate k (-1 : Int) ++ List.replicate (127 - k) 0).set k (-1) = List.replicate (k + 1) (-1) ++ List.replicate (127 - (k + 1)) 0 := by
  rw [List.set_append_right _ _ (by simp), List.length_replicate, Nat.sub_self, show 127 - k = (127 - (k + 1)) + 1 by omega, List.replicate_succ (n := 127 - (k + 1)), List.set_cons_zero, List.replicate_succ' (n := k), List.append_assoc]; rfl

def mkWk (i : Nat) (s : Sl) : Wk := ⟨i, words Ke.zero [1, s.ad, s.po] % 127, 1 + words Ke.zero [2, s.ad, s.po] % 126, if 8 < (if s.we < 1 then 1 else s.we) then 8 else (if s.we < 1 then 1 else s.we)⟩
def wks : List Sl → Nat → List Wk
  | _, 0 => []
  | l, k + 1 => wks l k ++ (if (l.getD k Sl.zero).st = 2 then [mkWk k (l.getD k Sl.zero)] else [])
theorem info170 : (Try.prog.info? 170).map (fun i => (i.zero, i.size, i.bytes)) = some (some (.agg #[I 0, I 0, I 0, I 0]), 4, 32) := by kernel_rfl
def wcells (l : List Wk) : List Value := l.flatMap Wk.cells
theorem wcells_len (l : List Wk) : (wcells l).length = l.length * 4 := by
  induction l with
  | nil => rfl
  | cons a l ih => simp only [wcells, List.flatMap_cons, List.length_append] at *; rw [ih]; simp [Wk.cells]; omega
theorem wks_len (l : List Sl) (k : Nat) : (wks l k).length ≤ k := by
  induction k with
  | zero => simp [wks]
  | succ k ih => simp only [wks, List.length_append]; split <;> simp <;> omega

/-- What stands while one walker is made. -/
structure SW (w : World) (p : Po) (T : Nat) (s : Sl) (W : World) : Prop where
  env : Env w W p empty127
  lt : T < W.heap.size
  c1 : W.cell? ⟨T, 1, none⟩ = some (.int .i64 s.ad)
  c2 : W.cell? ⟨T, 2, none⟩ = some (.int .i64 s.po)
  c3 : W.cell? ⟨T, 3, none⟩ = some (.int .i64 s.we)
theorem grown_of_below {w w' : World} (h : Below w.heap.size w w') (r : Option Nat) : w.grownBy w' r := ⟨h.os, h.tape, h.output, h.size, fun k hk _ => h.block k hk⟩
theorem SW.grow {w : World} {p : Po} {T : Nat} {s : Sl} {W W' : World} (h : SW w p T s W) (hb : Below W.heap.size W W') : SW w p T s W' :=
  ⟨h.env.below_to hb, by have := hb.size; have := h.lt; omega, (hb.cell (by exact h.lt)).trans h.c1, (hb.cell (by exact h.lt)).trans h.c2, (hb.cell (by exact h.lt)).trans h.c3⟩
theorem SW.drew {w : World} {p : Po} {T : Nat} {s : Sl} {W : World} (h : SW w p T s W) : SW w p T s W.drew := h.grow (Below.refl _ _).drew
theorem SW.alloc {w : World} {p : Po} {T : Nat} {s : Sl} {W : World} (h : SW w p T s W) (o : Obj) : SW w p T s (W.alloc o) := h.grow ((Below.refl _ _).alloc (Nat.le_refl _) _)
theorem Env.grown {w wr w2 : World} {p : Po} {W : List Int} (h : Env w wr p W) {r : Option Nat} (hg : wr.grownBy w2 r) (hr : ∀ k, r = some k → w.heap.size + 2 ≤ k) : Env w w2 p W :=
  ⟨h.below.grown hg h.below.size (fun k e => by have := hr k e; omega), by have := hg.size; have := h.size; omega,
   by rw [hg.block _ (by have := h.size; omega) (fun e => by have := hr _ e.symm; omega)]; exact h.pool, by rw [hg.block _ (by have := h.size; omega) (fun e => by have := hr _ e.symm; omega)]; exact h.arr⟩
theorem SW.grown {w : World} {p : Po} {T : Nat} {s : Sl} {W W' : World} (h : SW w p T s W) {r : Option Nat} (hg : W.grownBy W' r) (hr : ∀ k, r = some k → w.heap.size + 2 ≤ k ∧ k ≠ T) : SW w p T s W' :=
  ⟨h.env.grown hg (fun k e => (hr k e).1), by have := hg.size; have := h.lt; omega, hg.cell h.c1 (fun e => (hr _ e.symm).2 rfl), hg.cell h.c2 (fun e => (hr _ e.symm).2 rfl), hg.cell h.c3 (fun e => (hr _ e.symm).2 rfl)⟩

/-- Three numbers of a literal, at the head of a block. -/
structure Lit3 (W : World) (b : Nat) (l : List Int) : Prop where
  lt : b < W.heap.size
  at_ : ∀ i, i < l.length → W.cell? ⟨b, 0 + i, none⟩ = some (.int .i64 (l.getD i 0))
theorem Lit3.new (X : World) (a b c : Int) (t : TypeId) : Lit3 (X.alloc (.cells #[.int .i64 a, .int .i64 b, .int .i64 c] t)) X.heap.size [a, b, c] :=
  ⟨by simp, fun i hi => by match i, hi with | 0, _ => simp | 1, _ => simp | 2, _ => simp⟩
theorem Lit3.grow {W W' : World} {b : Nat} {l : List Int} (h : Lit3 W b l) (hb : Below W.heap.size W W') : Lit3 W' b l :=
  ⟨by have := hb.size; have := h.lt; omega, fun i hi => (hb.cell (by exact h.lt)).trans (h.at_ i hi)⟩
theorem Lit3.alloc {W : World} {b : Nat} {l : List Int} (h : Lit3 W b l) (o : Obj) : Lit3 (W.alloc o) b l := h.grow ((Below.refl _ _).alloc (Nat.le_refl _) _)

def wheel (p : Po) : List Int := wheelOf (wks p.sl 64)
def WheelPost (w : World) (W : List Int) (e : Ending) (w' : World) : Prop := ∃ v, e = .returned v ∧ w'.ownsRow w.heap.size 3 1 v 127 (W.map (Value.int .i64)) ∧ Below w.heap.size w w'
theorem info3 : (Try.prog.info? 3).map (fun i => (i.zero, i.size, i.bytes)) = some (some (.int .i64 0), 1, 8) := by kernel_rfl
theorem ints_one (l : List Int) : ∀ u ∈ l.map (Value.int .i64), u.oneCell' = true := by
  intro u hu
  obtain ⟨x, _, rfl⟩ := List.mem_map.1 hu
  rfl
theorem Env.news {w wr : World} {p : Po} {W : List Int} (h : Env w wr p W) : ∀ j u, (W.map (Value.int .i64))[j]? = some u → wr.cell? ((⟨w.heap.size + 1, 0, none⟩ : Addr).add j) = some u := by
  have := World.news_of_block h.arr
  simpa using this
theorem wks_ok (p : Po) : ∀ i, i < (wks p.sl 64).length → ((wks p.sl 64).getD i default).ok := by
  have key : ∀ k, k ≤ 64 → ∀ x ∈ wks p.sl k, x.ok := by
    intro k
    induction k with
    | zero => intro _ x hx; simp [wks] at hx
    | succ k ih =>
      intro hk x hx
      simp only [wks, List.mem_append] at hx
      rcases hx with hx | hx
      · exact ih (by omega) x hx
      · split at hx
        · simp only [List.mem_singleton] at hx
          subst hx
          have h1 := Int.emod_lt_of_pos (words Ke.zero [1, (p.sl.getD k Sl.zero).ad, (p.sl.getD k Sl.zero).po]) (show (0 : Int) < 127 by omega)
          have h2 := Int.emod_nonneg (words Ke.zero [1, (p.sl.getD k Sl.zero).ad, (p.sl.getD k Sl.zero).po]) (b := 127) (by omega)
          have h3 := Int.emod_lt_of_pos (words Ke.zero [2, (p.sl.getD k Sl.zero).ad, (p.sl.getD k Sl.zero).po]) (show (0 : Int) < 126 by omega)
          have h4 := Int.emod_nonneg (words Ke.zero [2, (p.sl.getD k Sl.zero).ad, (p.sl.getD k Sl.zero).po]) (b := 126) (by omega)
          refine ⟨?_, ?_, ?_, ?_, ?_, ?_, ?_, ?_⟩ <;> simp only [mkWk] <;> first | omega | (split <;> first | omega | (split <;> omega))
        · simp at hx
  intro i hi
  refine key 64 (by omega) _ ?_
  simp [List.getD_eq_getElem?_getD, hi]
theorem Env.range {w wr : World} {p : Po} {W : List Int} (h : Env w wr p W) : wr.rangeAt (w.heap.size + 1) 0 (W.map (Value.int .i64)) := fun j v hv => by
  rw [cell_of_row _ _ _ _ _ _ h.arr, Nat.zero_add]; simpa using hv
theorem range_of {wr : World} {b : Nat} {W : List Int} {t : TypeId} (h : wr.heap[b]? = some (.cells (W.map (Value.int .i64)).toArray t (0, 0))) : wr.rangeAt b 0 (W.map (Value.int .i64)) := fun j v hv => by
  rw [cell_of_row _ _ _ _ _ _ h, Nat.zero_add]; simpa using hv
theorem size166 (l : List Int) (h : l.length = 127) : (Try.prog.info? 166).map (·.size) = some (l.map (Value.int .i64)).length := by rw [List.length_map, h]; kernel_rfl
theorem Env.drew {w wr : World} {p : Po} {W : List Int} (h : Env w wr p W) : Env w wr.drew p W := ⟨h.below.drew, h.size, h.pool, h.arr⟩
theorem words_mod (l : List Int) (m : Int) (h : 0 < m) : 0 ≤ words Ke.zero l % m ∧ words Ke.zero l % m ≤ m - 1 := by
  have h1 := Int.emod_lt_of_pos (words Ke.zero l) h
  have h2 := Int.emod_nonneg (words Ke.zero l) (b := m) (by omega)
  omega
theorem wcells_snoc (l : List Wk) (x : Wk) : wcells (l ++ [x]) = wcells l ++ x.cells := by simp [wcells]

set_option maxHeartbeats 4000000 in
set_option maxRecDepth 100000 in
theorem wheel_Make (p : Po) (w : World) (hp : p.ok) :
    Calls Try.prog 80 #[p.v] w (WheelPost w (wheel p)) := by
  obtain ⟨hz, hs⟩ := zero_of_info info166
  clear hs
  unfold Po.v
  go_enter Try.func80, Try.ntmps80
  go_wp2_with fail
  refine wp_scope_straight ?_
  go_wp2_with fail
  clear hz
  refine wp_gen (fun w1 => Env w w1 p (List.replicate 127 0)) ⟨((Below.refl _ _).alloc (Nat.le_refl _) _).alloc (by simp) _, by simp, ?_, ?_⟩ ?_
  · rw [Below.heap_alloc _ _ _ (by simp)]; exact heap_alloc_new _ _
  · rw [show w.heap.size + 1 = (w.alloc (.cells p.cells.toArray 33)).heap.size by simp, heap_alloc_new, List.map_replicate, List.toArray_replicate]
  intro w1 henv
  go_loopw [11] (fun i wr => ∃ k : Nat, k ≤ 127 ∧ i = .int .i64 k ∧ Env w wr p (List.replicate k (-1) ++ List.replicate (127 - k) 0)) (fun i _ => 127 - (intOf i).toNat)
  case atStart => exact ⟨0, by omega, rfl, henv⟩
  case round =>
    obtain ⟨k, hk, rfl, he⟩ := hrel
    by_cases hlt : k < 127
    · have hc := he.cell k (by simp; omega)
      have hf := he.fz k
      have he2 := he.set k (-1)
      rw [fill_set k hlt] at he2
      clear he henv
      go_wp2_with fail
      go_roundw
      case rel => exact ⟨k + 1, by omega, by go_num, he2⟩
      case measure => simp [intOf]; omega
    · have hk1 : k = 127 := by omega
      subst hk1
      clear hlt hk henv
      have he1 : Env w wr p empty127 := he
      clear he
      have hrange : wr.rangeAt w.heap.size 3 (slots p.sl) := by
        intro j v hv
        rw [cell_of_row _ _ _ _ _ _ he1.pool]
        have hj : j < (slots p.sl).length := (List.getElem?_eq_some_iff.1 hv).1
        rw [List.getElem?_toArray, Po.cells, List.append_assoc, List.getElem?_append_right (by simp), List.getElem?_append_left (by simpa using hj)]
        simpa using hv
      have HR := Lib.hid hrange
      clear hrange
      have hls : (slots p.sl).length = 320 := by rw [slots_len, hp.len]
      have HL := Lib.hid hls
      clear hls
      go_wp2_with (refine wpList_load_mid rfl 26 _ rfl w.heap.size 3 rfl (slots p.sl) _ HR.out Try.underlying26 rfl (by rw [HL.out]; kernel_rfl) ?_)
      clear HR
      have hown0 : wr.ownsRow (w.heap.size + 2) 170 4 (.slice none 0 0) (wks p.sl 0).length (wcells (wks p.sl 0)) := World.ownsRow_nil _ _ _ _
      obtain ⟨i0, hi, hz0, hz1, hz2⟩ := info_parts info170
      go_loopw [5, 19] (fun v i wr => ∃ k : Nat, k ≤ 64 ∧ i = .int .i64 k ∧ wr.ownsRow (w.heap.size + 2) 170 4 v (wks p.sl k).length (wcells (wks p.sl k)) ∧ Env w wr p empty127) (fun _ i _ => 64 - (intOf i).toNat)
      case atStart => exact ⟨0, by omega, rfl, hown0, he1⟩
      case round =>
        obtain ⟨k, hk, rfl, hown, he⟩ := hrel
        clear he1 hown0
        by_cases hlt : k < 64
        · have hidx : ∀ W, (Instr.index 26 (.agg (slots p.sl).toArray) (.int .i64 k)).run Try.prog W = .ok (.agg #[I (p.slot k).st, I (p.slot k).ad, I (p.slot k).po, I (p.slot k).we, I (p.slot k).si]) W := fun W => by
            rw [run_index_row W 26 64 25 5 _ _ _ _ Try.underlying26 Try.underlying25 rfl (by kernel_rfl) (by omega) (by omega), Int.toNat_natCast, slots_extract _ _ (by rw [hp.len]; exact hlt)]
            rfl
          have hw : wks p.sl (k + 1) = wks p.sl k ++ (if (p.slot k).st = 2 then [mkWk k (p.slot k)] else []) := rfl
          generalize hs : p.slot k = s at hidx hw
          have HW := Lib.hid hw
          have HS := Lib.hid hs
          clear hw hs
          by_cases h2 : s.st = 2
          · go_wp2_with fail
            refine wp_gen (fun W => Env w W p empty127 ∧ W.ownsRow (w.heap.size + 2) 170 4 u5 (wks p.sl k).length (wcells (wks p.sl k)) ∧ wr.heap.size < W.heap.size ∧ W.heap[wr.heap.size]? = some (.cells #[I 2, I s.ad, I s.po, I s.we, I s.si] 25 (0, 0))) ⟨he.below_to ((Below.refl _ _).alloc (Nat.le_refl _) _), hown.alloc _, by simp, heap_alloc_new _ _⟩ ?_
            rintro W ⟨heW, hownW, hT, hTb⟩
            have hne := fun k hk => (hown.lt k hk).2
            have t1 : W.cell? ⟨wr.heap.size, 1, none⟩ = some (I s.ad) := by rw [cell_of_row _ _ _ _ _ _ hTb]; rfl
            have t2 : W.cell? ⟨wr.heap.size, 2, none⟩ = some (I s.po) := by rw [cell_of_row _ _ _ _ _ _ hTb]; rfl
            have t3 : W.cell? ⟨wr.heap.size, 3, none⟩ = some (I s.we) := by rw [cell_of_row _ _ _ _ _ _ hTb]; rfl
            generalize wr.heap.size = T at *
            clear hidx hown he hTb
            have hSW : SW w p T s W := ⟨heW, hT, t1, t2, t3⟩
            clear heW hT t1 t2 t3
            refine wp_region_noPanic ?_
            refine wp_region_held_drew (S := SW w p T s) (by kernel_rfl) hSW.drew ?_
            intro hS
            replace hownW : W.drew.ownsRow (w.heap.size + 2) 170 4 u5 (wks p.sl k).length (wcells (wks p.sl k)) := hownW
            clear hSW
            generalize W.drew = X at hS hownW ⊢
            have q1 := words_mod [1, s.ad, s.po] 127 (by omega)
            have q2 := words_mod [2, s.ad, s.po] 126 (by omega)
            have hwr : IntKind.i64.wrap (1 + words Ke.zero [2, s.ad, s.po] % 126) = 1 + words Ke.zero [2, s.ad, s.po] % 126 := IntWalk.i64_in _ (by omega)
            have hbel := Below.refl X.heap.size X
            refine wpAnyH_take (i := 0) (v := ?_) rfl (by kernel_rfl) (by kernel_rfl) (by kernel_rfl) (fun _ _ _ h => h) (Or.inl ⟨by rfl, ?_⟩) (by assumption) ?_
            rotate_left
            · intro W1 h1; have d1 := h1.c1; have d2 := h1.c2; have d3 := h1.c3; clear h1; go_simp; first | done | with_reducible rfl
            simp only [List.getElem_toArray, List.getElem_cons_succ, List.getElem_cons_zero, Act.put, List.setIfInBounds_toArray, List.set_cons_zero, List.set_cons_succ]
            refine wpAnyH_take (i := 1) (v := ?_) rfl (by kernel_rfl) (by kernel_rfl) (by kernel_rfl) (fun _ _ _ h => h) (Or.inl ⟨by rfl, ?_⟩) (by assumption) ?_
            rotate_left
            · intro W1 h1; have d1 := h1.c1; have d2 := h1.c2; have d3 := h1.c3; clear h1; go_simp; first | done | with_reducible rfl
            simp only [List.getElem_toArray, List.getElem_cons_succ, List.getElem_cons_zero, Act.put, List.setIfInBounds_toArray, List.set_cons_zero, List.set_cons_succ]
            refine wpAnyH_take (i := 2) (v := ?_) rfl (by kernel_rfl) (by kernel_rfl) (by kernel_rfl) (fun _ _ _ h => h) (Or.inl ⟨by rfl, ?_⟩) (by assumption) ?_
            rotate_left
            · intro W1 h1; have d1 := h1.c1; have d2 := h1.c2; have d3 := h1.c3; clear h1; go_simp; first | done | with_reducible rfl
            simp only [List.getElem_toArray, List.getElem_cons_succ, List.getElem_cons_zero, Act.put, List.setIfInBounds_toArray, List.set_cons_zero, List.set_cons_succ]
            refine wpAnyH_take (i := 3) (v := ?_) rfl (by kernel_rfl) (by kernel_rfl) (by kernel_rfl) (fun _ _ _ h => h) (Or.inl ⟨by rfl, ?_⟩) (by assumption) ?_
            rotate_left
            · intro W1 h1; have d1 := h1.c1; have d2 := h1.c2; have d3 := h1.c3; clear h1; go_simp; first | done | with_reducible rfl
            simp only [List.getElem_toArray, List.getElem_cons_succ, List.getElem_cons_zero, Act.put, List.setIfInBounds_toArray, List.set_cons_zero, List.set_cons_succ]
            refine wpAnyH_take (i := 4) (v := ?_) rfl (by kernel_rfl) (by kernel_rfl) (by kernel_rfl) (fun _ _ _ h => h) (Or.inl ⟨by rfl, ?_⟩) (by assumption) ?_
            rotate_left
            · intro W1 h1; have d1 := h1.c1; have d2 := h1.c2; have d3 := h1.c3; clear h1; go_simp; first | done | with_reducible rfl
            simp only [List.getElem_toArray, List.getElem_cons_succ, List.getElem_cons_zero, Act.put, List.setIfInBounds_toArray, List.set_cons_zero, List.set_cons_succ]
            refine wpAnyH_take (i := 5) (v := ?_) rfl (by kernel_rfl) (by kernel_rfl) (by kernel_rfl) (fun _ _ _ h => h) (Or.inl ⟨by rfl, ?_⟩) (by assumption) ?_
            rotate_left
            · intro W1 h1; have d1 := h1.c1; have d2 := h1.c2; have d3 := h1.c3; clear h1; go_simp; first | done | with_reducible rfl
            simp only [List.getElem_toArray, List.getElem_cons_succ, List.getElem_cons_zero, Act.put, List.setIfInBounds_toArray, List.set_cons_zero, List.set_cons_succ]
            refine wpAnyH_take (i := 8) (v := ?_) rfl (by kernel_rfl) (by kernel_rfl) (by kernel_rfl) (fun _ _ _ h => h) (Or.inl ⟨by rfl, ?_⟩) (by assumption) ?_
            rotate_left
            · intro W1 h1; have d1 := h1.c1; have d2 := h1.c2; have d3 := h1.c3; clear h1; go_simp; first | done | with_reducible rfl
            simp only [List.getElem_toArray, List.getElem_cons_succ, List.getElem_cons_zero, Act.put, List.setIfInBounds_toArray, List.set_cons_zero, List.set_cons_succ]
            refine wpAnyH_take (i := 9) (v := ?_) rfl (by kernel_rfl) (by kernel_rfl) (by kernel_rfl) (fun _ _ _ h => h) (Or.inl ⟨by rfl, ?_⟩) (by assumption) ?_
            rotate_left
            · intro W1 h1; have d1 := h1.c1; have d2 := h1.c2; have d3 := h1.c3; clear h1; go_simp; first | done | with_reducible rfl
            simp only [List.getElem_toArray, List.getElem_cons_succ, List.getElem_cons_zero, Act.put, List.setIfInBounds_toArray, List.set_cons_zero, List.set_cons_succ]
            refine wpAnyH_take (i := 10) (v := ?_) rfl (by kernel_rfl) (by kernel_rfl) (by kernel_rfl) (fun _ _ _ h => h) (Or.inl ⟨by rfl, ?_⟩) (by assumption) ?_
            rotate_left
            · intro W1 h1; have d1 := h1.c1; have d2 := h1.c2; have d3 := h1.c3; clear h1; go_simp; first | done | with_reducible rfl
            simp only [List.getElem_toArray, List.getElem_cons_succ, List.getElem_cons_zero, Act.put, List.setIfInBounds_toArray, List.set_cons_zero, List.set_cons_succ]
            refine wpAnyH_take (i := 11) (v := ?_) rfl (by kernel_rfl) (by kernel_rfl) (by kernel_rfl) (fun _ _ _ h => h) (Or.inl ⟨by rfl, ?_⟩) (by assumption) ?_
            rotate_left
            · intro W1 h1; have d1 := h1.c1; have d2 := h1.c2; have d3 := h1.c3; clear h1; go_simp; first | done | with_reducible rfl
            simp only [List.getElem_toArray, List.getElem_cons_succ, List.getElem_cons_zero, Act.put, List.setIfInBounds_toArray, List.set_cons_zero, List.set_cons_succ]
            refine wpAnyH_take (i := 15) (v := ?_) rfl (by kernel_rfl) (by kernel_rfl) (by kernel_rfl) (fun _ _ _ h => h) (Or.inl ⟨by rfl, ?_⟩) (by assumption) ?_
            rotate_left
            · intro W1 h1; have d1 := h1.c1; have d2 := h1.c2; have d3 := h1.c3; clear h1; go_simp; first | done | with_reducible rfl
            simp only [List.getElem_toArray, List.getElem_cons_succ, List.getElem_cons_zero, Act.put, List.setIfInBounds_toArray, List.set_cons_zero, List.set_cons_succ]
            refine wpAnyH_take (i := 16) (v := ?_) rfl (by kernel_rfl) (by kernel_rfl) (by kernel_rfl) (fun _ _ _ h => h) (Or.inl ⟨by rfl, ?_⟩) (by assumption) ?_
            rotate_left
            · intro W1 h1; have d1 := h1.c1; have d2 := h1.c2; have d3 := h1.c3; clear h1; go_simp; first | done | with_reducible rfl
            simp only [List.getElem_toArray, List.getElem_cons_succ, List.getElem_cons_zero, Act.put, List.setIfInBounds_toArray, List.set_cons_zero, List.set_cons_succ]
            refine wpAnyH_take (i := 17) (v := ?_) rfl (by kernel_rfl) (by kernel_rfl) (by kernel_rfl) (fun _ _ _ h => h) (Or.inl ⟨by rfl, ?_⟩) (by assumption) ?_
            rotate_left
            · intro W1 h1; have d1 := h1.c1; have d2 := h1.c2; have d3 := h1.c3; clear h1; go_simp; first | done | with_reducible rfl
            simp only [List.getElem_toArray, List.getElem_cons_succ, List.getElem_cons_zero, Act.put, List.setIfInBounds_toArray, List.set_cons_zero, List.set_cons_succ]
            refine wpAnyH_take (i := 18) (v := ?_) rfl (by kernel_rfl) (by kernel_rfl) (by kernel_rfl) (fun _ _ _ h => h) (Or.inl ⟨by rfl, ?_⟩) (by assumption) ?_
            rotate_left
            · intro W1 h1; have d1 := h1.c1; have d2 := h1.c2; have d3 := h1.c3; clear h1; go_simp; first | done | with_reducible rfl
            simp only [List.getElem_toArray, List.getElem_cons_succ, List.getElem_cons_zero, Act.put, List.setIfInBounds_toArray, List.set_cons_zero, List.set_cons_succ]
            refine wpAnyH_ready (rs := [6, 12]) (by kernel_rfl) (by simp) ?_
            refine AllReadyH.cons rfl (fun K hK => ?_) (AllReadyH.cons rfl (fun K hK => ?_) AllReadyH.nil)
            · go_simp
              refine hK.out _ _ (hS.alloc _) (fun hS1 => ?_)
              clear hK K
              have hb1 := Lit3.new X 1 s.ad s.po 3
              replace hbel := hbel.alloc hbel.size (.cells #[.int .i64 1, .int .i64 s.ad, .int .i64 s.po] 3)
              generalize World.alloc X _ = Y at hS1 hbel hb1 ⊢
              generalize hBb1 : X.heap.size = b1 at hb1 ⊢
              clear hS
              refine wpAnyH_ready (rs := [7, 12]) (by kernel_rfl) (by simp) ?_
              refine AllReadyH.cons rfl (fun K hK => ?_) (AllReadyH.cons rfl (fun K hK => ?_) AllReadyH.nil)
              · go_simp
                refine (spun_any 127 [1, s.ad, s.po] b1 0 3 Y (by simp) hb1.lt (by omega) (by omega) hb1.at_).mono ?_
                rintro e Z ⟨rfl, hbz⟩
                refine hK.out _ _ (hS1.grow hbz) (fun hS2 => ?_)
                clear hK K
                replace hbel := hbel.trans (hbz.mono hbel.size)
                clear hbz hb1 hS1
                refine wpAnyH_ready (rs := [12]) (by kernel_rfl) (by simp) ?_
                refine AllReadyH.cons rfl (fun K hK => ?_) AllReadyH.nil
                go_simp
                refine hK.out _ _ (hS2.alloc _) (fun hS3 => ?_)
                clear hK K
                have hb2 := Lit3.new Z 2 s.ad s.po 3
                replace hbel := hbel.alloc hbel.size (.cells #[.int .i64 2, .int .i64 s.ad, .int .i64 s.po] 3)
                generalize World.alloc Z _ = V at hS3 hbel hb2 ⊢
                generalize Z.heap.size = b2 at hb2 ⊢
                clear hS2
                refine wpAnyH_ready (rs := [13]) (by kernel_rfl) (by simp) ?_
                refine AllReadyH.cons rfl (fun K hK => ?_) AllReadyH.nil
                go_simp
                refine (spun_any 126 [2, s.ad, s.po] b2 0 3 V (by simp) hb2.lt (by omega) (by omega) hb2.at_).mono ?_
                rintro e W9 ⟨rfl, hbz⟩
                refine hK.out _ _ (hS3.grow hbz) (fun hS4 => ?_)
                clear hK K
                replace hbel := hbel.trans (hbz.mono hbel.size)
                clear hbz hb2 hS3
                refine wpAnyH_take (i := 14) (v := ?_) rfl (by kernel_rfl) (by kernel_rfl) (by kernel_rfl) (fun _ _ _ h => h) (Or.inl ⟨by rfl, ?_⟩) (by assumption) ?_
                rotate_left
                · intro W1 h1; have d1 := h1.c1; have d2 := h1.c2; have d3 := h1.c3; clear h1; go_simp; first | done | with_reducible rfl
                simp only [List.getElem_toArray, List.getElem_cons_succ, List.getElem_cons_zero, Act.put, List.setIfInBounds_toArray, List.set_cons_zero, List.set_cons_succ]
                refine wpAnyH_take (i := 19) (v := ?_) rfl (by kernel_rfl) (by kernel_rfl) (by kernel_rfl) (fun _ _ _ h => h) (Or.inl ⟨by rfl, ?_⟩) (by assumption) ?_
                rotate_left
                · intro W1 h1; have d1 := h1.c1; have d2 := h1.c2; have d3 := h1.c3; clear h1; go_simp; first | done | with_reducible rfl
                simp only [List.getElem_toArray, List.getElem_cons_succ, List.getElem_cons_zero, Act.put, List.setIfInBounds_toArray, List.set_cons_zero, List.set_cons_succ]
                refine wpAnyH_ready (rs := [20]) (by kernel_rfl) (by simp) ?_
                refine AllReadyH.cons rfl (fun K hK => ?_) AllReadyH.nil
                go_simp
                refine hK.out _ _ (hS4.alloc _) (fun hS5 => ?_)
                clear hK K
                clear hS4
                have hbl := hbel.size
                have hownZ := (hownW.kept (grown_of_below hbel none) (by cases u5.ownBlock <;> simp)).alloc (.cells #[I k, I (words Ke.zero [1, s.ad, s.po] % 127), I (1 + words Ke.zero [2, s.ad, s.po] % 126), I (if 8 < (if s.we < 1 then 1 else s.we) then 8 else (if s.we < 1 then 1 else s.we))] 170)
                have hwl := wks_len p.sl k
                refine wpAnyH_ready (rs := [21]) (by kernel_rfl) (by simp) ?_
                refine AllReadyH.cons rfl (fun K hK => ?_) AllReadyH.nil
                rw [if_pos (by rfl)]
                refine wp_append_own _ _ _ 167 rfl (w.heap.size + 2) 170 i0 _ 4 32 Try.underlying167 hi hz0 hz1 hz2 rfl (by decide) u5 (wks p.sl k).length (wcells (wks p.sl k)) rfl hownZ ⟨W9.heap.size, 0, none⟩ 1 1 [I k, I (words Ke.zero [1, s.ad, s.po] % 127), I (1 + words Ke.zero [2, s.ad, s.po] % 126), I (if 8 < (if s.we < 1 then 1 else s.we) then 8 else (if s.we < 1 then 1 else s.we))] rfl rfl (World.news_of_block (cs := #[I k, I (words Ke.zero [1, s.ad, s.po] % 127), I (1 + words Ke.zero [2, s.ad, s.po] % 126), I (if 8 < (if s.we < 1 then 1 else s.we) then 8 else (if s.we < 1 then 1 else s.we))]) (t := 170) (fr := (0, 0)) (heap_alloc_new W9 _)) (by simp [Value.oneCell']) (by unfold maxLen; omega) (by omega) (by simp; have := hS5.env.size; simp at this; omega) ?_
                intro v' w' hown' hgr _
                refine hK.out _ _ (hS5.grown hgr (fun k hk => ⟨(hownW.lt k hk).1, by have := hne k hk; omega⟩)) (fun hS6 => ?_)
                clear hK K
                have henv6 := (hS5.grown hgr (fun k hk => ⟨(hownW.lt k hk).1, by have := hne k hk; omega⟩)).env
                simp only [List.getElem_toArray, List.getElem_cons_succ, List.getElem_cons_zero, Act.put, List.setIfInBounds_toArray, List.set_cons_zero, List.set_cons_succ]
                refine wpAnyH_take (i := 22) (v := ?_) rfl (by kernel_rfl) (by kernel_rfl) (by kernel_rfl) (fun _ _ _ h => h) (Or.inl ⟨by rfl, ?_⟩) (by assumption) ?_
                rotate_left
                · intro W1 h1; clear h1; go_simp; first | done | with_reducible rfl
                simp only [List.getElem_toArray, List.getElem_cons_succ, List.getElem_cons_zero, Act.put, List.setIfInBounds_toArray, List.set_cons_zero, List.set_cons_succ]
                refine wpAnyH_done (by kernel_rfl) ?_ _
                refine NoPanic.normal ?_
                have hrel2 : w'.ownsRow (w.heap.size + 2) 170 4 v' (wks p.sl (k + 1)).length (wcells (wks p.sl (k + 1))) := by
                  rw [HW.out, if_pos h2, wcells_snoc, List.length_append]; exact hown'
                clear hS5 hS6 hownZ hown' hgr hownW hbel
                go_wp2_with fail
                go_roundw
                case rel => exact ⟨k + 1, by omega, by go_num, hrel2, henv6⟩
                case measure => simp [intOf]; omega
              · go_simp
                refine hK.out _ _ (hS1.alloc _) (fun hS2 => ?_)
                clear hK K
                have hb2 := Lit3.new Y 2 s.ad s.po 3
                replace hbel := hbel.alloc hbel.size (.cells #[.int .i64 2, .int .i64 s.ad, .int .i64 s.po] 3)
                replace hb1 := hb1.alloc (.cells #[.int .i64 2, .int .i64 s.ad, .int .i64 s.po] 3)
                generalize World.alloc Y _ = Z at hS2 hbel hb2 hb1 ⊢
                generalize Y.heap.size = b2 at hb2 ⊢
                clear hS1
                refine wpAnyH_ready (rs := [7]) (by kernel_rfl) (by simp) ?_
                refine AllReadyH.cons rfl (fun K hK => ?_) AllReadyH.nil
                go_simp
                refine (spun_any 127 [1, s.ad, s.po] b1 0 3 Z (by simp) hb1.lt (by omega) (by omega) hb1.at_).mono ?_
                rintro e V ⟨rfl, hbz⟩
                refine hK.out _ _ (hS2.grow hbz) (fun hS3 => ?_)
                clear hK K
                replace hbel := hbel.trans (hbz.mono hbel.size)
                replace hb2 := hb2.grow hbz
                clear hbz hb1 hS2
                refine wpAnyH_ready (rs := [13]) (by kernel_rfl) (by simp) ?_
                refine AllReadyH.cons rfl (fun K hK => ?_) AllReadyH.nil
                go_simp
                refine (spun_any 126 [2, s.ad, s.po] b2 0 3 V (by simp) hb2.lt (by omega) (by omega) hb2.at_).mono ?_
                rintro e W9 ⟨rfl, hbz⟩
                refine hK.out _ _ (hS3.grow hbz) (fun hS4 => ?_)
                clear hK K
                replace hbel := hbel.trans (hbz.mono hbel.size)
                clear hbz hb2 hS3
                refine wpAnyH_take (i := 14) (v := ?_) rfl (by kernel_rfl) (by kernel_rfl) (by kernel_rfl) (fun _ _ _ h => h) (Or.inl ⟨by rfl, ?_⟩) (by assumption) ?_
                rotate_left
                · intro W1 h1; have d1 := h1.c1; have d2 := h1.c2; have d3 := h1.c3; clear h1; go_simp; first | done | with_reducible rfl
                simp only [List.getElem_toArray, List.getElem_cons_succ, List.getElem_cons_zero, Act.put, List.setIfInBounds_toArray, List.set_cons_zero, List.set_cons_succ]
                refine wpAnyH_take (i := 19) (v := ?_) rfl (by kernel_rfl) (by kernel_rfl) (by kernel_rfl) (fun _ _ _ h => h) (Or.inl ⟨by rfl, ?_⟩) (by assumption) ?_
                rotate_left
                · intro W1 h1; have d1 := h1.c1; have d2 := h1.c2; have d3 := h1.c3; clear h1; go_simp; first | done | with_reducible rfl
                simp only [List.getElem_toArray, List.getElem_cons_succ, List.getElem_cons_zero, Act.put, List.setIfInBounds_toArray, List.set_cons_zero, List.set_cons_succ]
                refine wpAnyH_ready (rs := [20]) (by kernel_rfl) (by simp) ?_
                refine AllReadyH.cons rfl (fun K hK => ?_) AllReadyH.nil
                go_simp
                refine hK.out _ _ (hS4.alloc _) (fun hS5 => ?_)
                clear hK K
                clear hS4
                have hbl := hbel.size
                have hownZ := (hownW.kept (grown_of_below hbel none) (by cases u5.ownBlock <;> simp)).alloc (.cells #[I k, I (words Ke.zero [1, s.ad, s.po] % 127), I (1 + words Ke.zero [2, s.ad, s.po] % 126), I (if 8 < (if s.we < 1 then 1 else s.we) then 8 else (if s.we < 1 then 1 else s.we))] 170)
                have hwl := wks_len p.sl k
                refine wpAnyH_ready (rs := [21]) (by kernel_rfl) (by simp) ?_
                refine AllReadyH.cons rfl (fun K hK => ?_) AllReadyH.nil
                rw [if_pos (by rfl)]
                refine wp_append_own _ _ _ 167 rfl (w.heap.size + 2) 170 i0 _ 4 32 Try.underlying167 hi hz0 hz1 hz2 rfl (by decide) u5 (wks p.sl k).length (wcells (wks p.sl k)) rfl hownZ ⟨W9.heap.size, 0, none⟩ 1 1 [I k, I (words Ke.zero [1, s.ad, s.po] % 127), I (1 + words Ke.zero [2, s.ad, s.po] % 126), I (if 8 < (if s.we < 1 then 1 else s.we) then 8 else (if s.we < 1 then 1 else s.we))] rfl rfl (World.news_of_block (cs := #[I k, I (words Ke.zero [1, s.ad, s.po] % 127), I (1 + words Ke.zero [2, s.ad, s.po] % 126), I (if 8 < (if s.we < 1 then 1 else s.we) then 8 else (if s.we < 1 then 1 else s.we))]) (t := 170) (fr := (0, 0)) (heap_alloc_new W9 _)) (by simp [Value.oneCell']) (by unfold maxLen; omega) (by omega) (by simp; have := hS5.env.size; simp at this; omega) ?_
                intro v' w' hown' hgr _
                refine hK.out _ _ (hS5.grown hgr (fun k hk => ⟨(hownW.lt k hk).1, by have := hne k hk; omega⟩)) (fun hS6 => ?_)
                clear hK K
                have henv6 := (hS5.grown hgr (fun k hk => ⟨(hownW.lt k hk).1, by have := hne k hk; omega⟩)).env
                simp only [List.getElem_toArray, List.getElem_cons_succ, List.getElem_cons_zero, Act.put, List.setIfInBounds_toArray, List.set_cons_zero, List.set_cons_succ]
                refine wpAnyH_take (i := 22) (v := ?_) rfl (by kernel_rfl) (by kernel_rfl) (by kernel_rfl) (fun _ _ _ h => h) (Or.inl ⟨by rfl, ?_⟩) (by assumption) ?_
                rotate_left
                · intro W1 h1; clear h1; go_simp; first | done | with_reducible rfl
                simp only [List.getElem_toArray, List.getElem_cons_succ, List.getElem_cons_zero, Act.put, List.setIfInBounds_toArray, List.set_cons_zero, List.set_cons_succ]
                refine wpAnyH_done (by kernel_rfl) ?_ _
                refine NoPanic.normal ?_
                have hrel2 : w'.ownsRow (w.heap.size + 2) 170 4 v' (wks p.sl (k + 1)).length (wcells (wks p.sl (k + 1))) := by
                  rw [HW.out, if_pos h2, wcells_snoc, List.length_append]; exact hown'
                clear hS5 hS6 hownZ hown' hgr hownW hbel
                go_wp2_with fail
                go_roundw
                case rel => exact ⟨k + 1, by omega, by go_num, hrel2, henv6⟩
                case measure => simp [intOf]; omega
            · go_simp
              refine hK.out _ _ (hS.alloc _) (fun hS1 => ?_)
              clear hK K
              have hb2 := Lit3.new X 2 s.ad s.po 3
              replace hbel := hbel.alloc hbel.size (.cells #[.int .i64 2, .int .i64 s.ad, .int .i64 s.po] 3)
              generalize World.alloc X _ = Y at hS1 hbel hb2 ⊢
              generalize hBb2 : X.heap.size = b2 at hb2 ⊢
              clear hS
              refine wpAnyH_ready (rs := [6]) (by kernel_rfl) (by simp) ?_
              refine AllReadyH.cons rfl (fun K hK => ?_) AllReadyH.nil
              go_simp
              refine hK.out _ _ (hS1.alloc _) (fun hS2 => ?_)
              clear hK K
              have hb1 := Lit3.new Y 1 s.ad s.po 3
              replace hbel := hbel.alloc hbel.size (.cells #[.int .i64 1, .int .i64 s.ad, .int .i64 s.po] 3)
              replace hb2 := hb2.alloc (.cells #[.int .i64 1, .int .i64 s.ad, .int .i64 s.po] 3)
              generalize World.alloc Y _ = Z at hS2 hbel hb1 hb2 ⊢
              generalize Y.heap.size = b1 at hb1 ⊢
              clear hS1
              refine wpAnyH_ready (rs := [7]) (by kernel_rfl) (by simp) ?_
              refine AllReadyH.cons rfl (fun K hK => ?_) AllReadyH.nil
              go_simp
              refine (spun_any 127 [1, s.ad, s.po] b1 0 3 Z (by simp) hb1.lt (by omega) (by omega) hb1.at_).mono ?_
              rintro e V ⟨rfl, hbz⟩
              refine hK.out _ _ (hS2.grow hbz) (fun hS3 => ?_)
              clear hK K
              replace hbel := hbel.trans (hbz.mono hbel.size)
              replace hb2 := hb2.grow hbz
              clear hbz hb1 hS2
              refine wpAnyH_ready (rs := [13]) (by kernel_rfl) (by simp) ?_
              refine AllReadyH.cons rfl (fun K hK => ?_) AllReadyH.nil
              go_simp
              refine (spun_any 126 [2, s.ad, s.po] b2 0 3 V (by simp) hb2.lt (by omega) (by omega) hb2.at_).mono ?_
              rintro e W9 ⟨rfl, hbz⟩
              refine hK.out _ _ (hS3.grow hbz) (fun hS4 => ?_)
              clear hK K
              replace hbel := hbel.trans (hbz.mono hbel.size)
              clear hbz hb2 hS3
              refine wpAnyH_take (i := 14) (v := ?_) rfl (by kernel_rfl) (by kernel_rfl) (by kernel_rfl) (fun _ _ _ h => h) (Or.inl ⟨by rfl, ?_⟩) (by assumption) ?_
              rotate_left
              · intro W1 h1; have d1 := h1.c1; have d2 := h1.c2; have d3 := h1.c3; clear h1; go_simp; first | done | with_reducible rfl
              simp only [List.getElem_toArray, List.getElem_cons_succ, List.getElem_cons_zero, Act.put, List.setIfInBounds_toArray, List.set_cons_zero, List.set_cons_succ]
              refine wpAnyH_take (i := 19) (v := ?_) rfl (by kernel_rfl) (by kernel_rfl) (by kernel_rfl) (fun _ _ _ h => h) (Or.inl ⟨by rfl, ?_⟩) (by assumption) ?_
              rotate_left
              · intro W1 h1; have d1 := h1.c1; have d2 := h1.c2; have d3 := h1.c3; clear h1; go_simp; first | done | with_reducible rfl
              simp only [List.getElem_toArray, List.getElem_cons_succ, List.getElem_cons_zero, Act.put, List.setIfInBounds_toArray, List.set_cons_zero, List.set_cons_succ]
              refine wpAnyH_ready (rs := [20]) (by kernel_rfl) (by simp) ?_
              refine AllReadyH.cons rfl (fun K hK => ?_) AllReadyH.nil
              go_simp
              refine hK.out _ _ (hS4.alloc _) (fun hS5 => ?_)
              clear hK K
              clear hS4
              have hbl := hbel.size
              have hownZ := (hownW.kept (grown_of_below hbel none) (by cases u5.ownBlock <;> simp)).alloc (.cells #[I k, I (words Ke.zero [1, s.ad, s.po] % 127), I (1 + words Ke.zero [2, s.ad, s.po] % 126), I (if 8 < (if s.we < 1 then 1 else s.we) then 8 else (if s.we < 1 then 1 else s.we))] 170)
              have hwl := wks_len p.sl k
              refine wpAnyH_ready (rs := [21]) (by kernel_rfl) (by simp) ?_
              refine AllReadyH.cons rfl (fun K hK => ?_) AllReadyH.nil
              rw [if_pos (by rfl)]
              refine wp_append_own _ _ _ 167 rfl (w.heap.size + 2) 170 i0 _ 4 32 Try.underlying167 hi hz0 hz1 hz2 rfl (by decide) u5 (wks p.sl k).length (wcells (wks p.sl k)) rfl hownZ ⟨W9.heap.size, 0, none⟩ 1 1 [I k, I (words Ke.zero [1, s.ad, s.po] % 127), I (1 + words Ke.zero [2, s.ad, s.po] % 126), I (if 8 < (if s.we < 1 then 1 else s.we) then 8 else (if s.we < 1 then 1 else s.we))] rfl rfl (World.news_of_block (cs := #[I k, I (words Ke.zero [1, s.ad, s.po] % 127), I (1 + words Ke.zero [2, s.ad, s.po] % 126), I (if 8 < (if s.we < 1 then 1 else s.we) then 8 else (if s.we < 1 then 1 else s.we))]) (t := 170) (fr := (0, 0)) (heap_alloc_new W9 _)) (by simp [Value.oneCell']) (by unfold maxLen; omega) (by omega) (by simp; have := hS5.env.size; simp at this; omega) ?_
              intro v' w' hown' hgr _
              refine hK.out _ _ (hS5.grown hgr (fun k hk => ⟨(hownW.lt k hk).1, by have := hne k hk; omega⟩)) (fun hS6 => ?_)
              clear hK K
              have henv6 := (hS5.grown hgr (fun k hk => ⟨(hownW.lt k hk).1, by have := hne k hk; omega⟩)).env
              simp only [List.getElem_toArray, List.getElem_cons_succ, List.getElem_cons_zero, Act.put, List.setIfInBounds_toArray, List.set_cons_zero, List.set_cons_succ]
              refine wpAnyH_take (i := 22) (v := ?_) rfl (by kernel_rfl) (by kernel_rfl) (by kernel_rfl) (fun _ _ _ h => h) (Or.inl ⟨by rfl, ?_⟩) (by assumption) ?_
              rotate_left
              · intro W1 h1; clear h1; go_simp; first | done | with_reducible rfl
              simp only [List.getElem_toArray, List.getElem_cons_succ, List.getElem_cons_zero, Act.put, List.setIfInBounds_toArray, List.set_cons_zero, List.set_cons_succ]
              refine wpAnyH_done (by kernel_rfl) ?_ _
              refine NoPanic.normal ?_
              have hrel2 : w'.ownsRow (w.heap.size + 2) 170 4 v' (wks p.sl (k + 1)).length (wcells (wks p.sl (k + 1))) := by
                rw [HW.out, if_pos h2, wcells_snoc, List.length_append]; exact hown'
              clear hS5 hS6 hownZ hown' hgr hownW hbel
              go_wp2_with fail
              go_roundw
              case rel => exact ⟨k + 1, by omega, by go_num, hrel2, henv6⟩
              case measure => simp [intOf]; omega
          · go_wp2_with fail
            refine ⟨⟨k + 1, by omega, by go_num, ?_, he.below_to ((Below.refl _ _).alloc (Nat.le_refl _) _)⟩, by simp [intOf]; omega⟩
            rw [HW.out, if_neg h2, List.append_nil]
            exact hown.alloc _
        · have hk4 : k = 64 := by omega
          subst hk4
          clear hlt hk HL
          rw [show ((64 : Nat) : Int) = 64 from rfl]
          generalize hL : wks p.sl 64 = L at hown
          have HL := Bx.mk hL
          clear hL hi hz0 hz1 hz2
          by_cases h0 : L.length = 0
          · rw [h0] at hown
            obtain ⟨A, c, rfl⟩ := own_nil hown
            go_wp2_with fail
            go_step3
            go_wp2_with fail
            go_loopg [8] 1 (fun _ v wr => v = .int .i64 0 ∧ Env w wr p empty127)
            case atStart => exact ⟨rfl, he⟩
            case round =>
              obtain ⟨rfl, he2⟩ := hrel
              have HLEN := Lib.hid (show (empty127.map (Value.int .i64)).length = 127 * 1 by simp [empty127])
              have HWH : Hid (wheel p = empty127) := by
                have hl0 : L = [] := List.eq_nil_of_length_eq_zero h0
                unfold Hid wheel; rw [HL.out, hl0]; rfl
              have HN := Lib.hid he2.news
              have hbase : w.heap.size ≤ wr.heap.size := he2.below.size
              obtain ⟨j0, hj, jz0, jz1, jz2⟩ := info_parts info3
              go_wp2_with (at_builtin; refine wpList_append_own _ rfl _ _ 22 rfl w.heap.size 3 j0 (.int .i64 0) 1 8 Try.underlying22 hj jz0 jz1 jz2 rfl (by decide) (.slice none 0 0) 0 [] rfl (World.ownsRow_nil _ _ _ _) ⟨w.heap.size + 1, 0, none⟩ 127 127 (empty127.map (Value.int .i64)) rfl HLEN.out HN.out (ints_one _) (by unfold maxLen; omega) (by omega) hbase ?_; intro v' w' hown' hgr _)
              go_ret
              exact ⟨v', rfl, by rw [HWH.out]; exact hown', he2.below.grown hgr hbase (fun k hk => by simp [Value.ownBlock] at hk)⟩
          · have hl0 : 0 < L.length := by omega
            have hl64 : L.length ≤ 64 := by rw [← HL.out]; exact wks_len _ _
            obtain ⟨gl, cp, rfl, hgl, hwk, hcp⟩ := Wks.of_own hown hl0
            have hLok : ∀ i, i < L.length → (L.getD i default).ok := by rw [← HL.out]; exact wks_ok p
            have HOK := Lib.hid hLok
            clear hown hLok
            have hz0' : ((L.length : Int) == 0) = false := by rw [beq_eq_false_iff_ne]; omega
            go_wp2_with fail
            go_step3
            go_wp2_with fail
            clear hz0'
            go_loopg [8] 127 (fun n v wr => ∃ j, n = 127 - j ∧ j ≤ 127 ∧ v = .int .i64 (127 - j) ∧ (j < 127 → ∃ r, j = r * pre L L.length) ∧ Env w wr p (stat L empty127 j).1 ∧ Wks wr gl (stat L empty127 j).2)
            case atStart => exact ⟨0, rfl, by omega, rfl, fun _ => ⟨0, by simp⟩, he, hwk⟩
            case round =>
              obtain ⟨j, rfl, hj, rfl, hr, he2, hwk2⟩ := hrel
              clear he hwk
              by_cases hj7 : j < 127
              · obtain ⟨r, hr⟩ := hr hj7
                have HR := Lib.hid hr
                clear hr hp
                generalize hS : stat L empty127 j = S at he2 hwk2
                have HS := Lib.hid hS
                clear hS hcp
                have hjp : (0 : Int) < 127 - (j : Int) := by omega
                have hjb : decide ((j : Int) < 127) = true := by simp; omega
                go_wp2_with fail
                obtain ⟨wo, rfl⟩ : ∃ wo : World, wo = wr := ⟨_, rfl⟩
                have hjr : ∃ j1, j1 = r * pre L L.length + pre L 0 ∧ j1 = j := ⟨_, rfl, by rw [HR.out, pre_zero, Nat.add_zero]⟩
                have HJR := Lib.hid hjr
                clear hjr
                go_loopg [8, 56] L.length (fun n v q wr => ∃ j1 k : Nat, n = L.length - k ∧ k ≤ L.length ∧ v = .int .i64 (127 - j1) ∧ q = .int .i64 k ∧ j1 ≤ 127 ∧ Hid (j1 = r * pre L L.length + pre L k) ∧ Env w wr p (stat L empty127 j1).1 ∧ Wks wr gl (stat L empty127 j1).2)
                case atStart =>
                  refine ⟨j, 0, rfl, by omega, rfl, rfl, hj, ?_, ?_, ?_⟩
                  · show j = _; rw [HR.out, pre_zero, Nat.add_zero]
                  · rw [HS.out]; exact he2
                  · rw [HS.out]; exact hwk2
                case round =>
                  obtain ⟨j1, k, rfl, hk, rfl, rfl, hj1, HJ, he3, hwk3⟩ := hrel
                  clear he2 hwk2 HJR
                  by_cases hkl : k < L.length
                  · have hsw := stat_wk HOK.out hl0 j1 k hj1 hkl
                    have hw4 := hwk3.cell k 3 (by rw [hsw.2.2.1]; exact hkl) (by omega) (v := I (L.getD k default).we) (by rw [← hsw.2.1]; rfl)
                    have hwe := hsw.1.w0
                    have hwe1 := hsw.1.w1
                    rw [hsw.2.1] at hwe hwe1
                    generalize hWE : (L.getD k default).we = we at hw4 hwe hwe1
                    have HWE := Lib.hid hWE
                    clear hWE hsw
                    generalize hS : stat L empty127 j1 = S at he3 hwk3
                    have HS1 := Lib.hid hS
                    clear hS
                    go_wp2_with fail
                    obtain ⟨wo2, rfl⟩ : ∃ wo : World, wo = wr := ⟨_, rfl⟩
                    go_loopg [8, 64] we.toNat (fun n v q wr => ∃ j2 m : Nat, n = we.toNat - m ∧ m ≤ we.toNat ∧ v = .int .i64 (127 - j2) ∧ q = .int .i64 m ∧ j2 ≤ 127 ∧ Hid (j2 = r * pre L L.length + (pre L k + m)) ∧ Env w wr p (stat L empty127 j2).1 ∧ Wks wr gl (stat L empty127 j2).2)
                    case atStart =>
                      exact ⟨j1, 0, by omega, by omega, rfl, rfl, hj1, HJ, by rw [HS1.out]; exact he3, by rw [HS1.out]; exact hwk3⟩
                    case round =>
                      obtain ⟨j2, m, rfl, hm, rfl, rfl, hj2, HJ2, he4, hwk4⟩ := hrel
                      clear he3 hwk3 hw4
                      by_cases hmw : m < we.toNat
                      · by_cases hj2f : j2 = 127
                        · subst hj2f
                          have henv := he4
                          clear he4 hwk4
                          have hmwi : (m : Int) < we := by omega
                          have hWl : (stat L empty127 127).1.length = 127 := (stat_ok HOK.out hl0 127 (by omega)).len
                          have HLEN := Lib.hid (show ((stat L empty127 127).1.map (Value.int .i64)).length = 127 * 1 by rw [List.length_map, hWl])
                          have HWH : Hid (wheel p = (stat L empty127 127).1) := by
                            have hl00 : L ≠ [] := fun e => by rw [e] at hl0; simp at hl0
                            unfold Hid wheel; rw [HL.out]; unfold wheelOf; rw [if_neg hl00]
                          generalize hWW : (stat L empty127 127).1 = WW at henv hWl HLEN HWH
                          clear hWW hWl
                          have HN := Lib.hid henv.news
                          have hbase : w.heap.size ≤ wr.heap.size := henv.below.size
                          obtain ⟨j0, hj, jz0, jz1, jz2⟩ := info_parts info3
                          clear hj2 HJ2 hm hmw
                          go_wp2_with (at_builtin; refine wpList_append_own _ rfl _ _ 22 rfl w.heap.size 3 j0 (.int .i64 0) 1 8 Try.underlying22 hj jz0 jz1 jz2 rfl (by decide) (.slice none 0 0) 0 [] rfl (World.ownsRow_nil _ _ _ _) ⟨w.heap.size + 1, 0, none⟩ 127 127 (WW.map (Value.int .i64)) rfl HLEN.out HN.out (ints_one _) (by unfold maxLen; omega) (by omega) hbase ?_; intro v' w' hown' hgr _)
                          go_ret
                          exact ⟨v', rfl, by rw [HWH.out]; exact hown', henv.below.grown hgr hbase (fun k hk => by simp [Value.ownBlock] at hk)⟩
                        · have hst := stat_wk HOK.out hl0 j2 k hj2 hkl
                          have hsok := stat_ok HOK.out hl0 j2 hj2
                          have hcl := claim_ok hsok hkl (by omega)
                          generalize hS : stat L empty127 j2 = S at he4 hwk4 hst hsok hcl
                          have HS2 := Lib.hid hS
                          clear hS
                          have HR := Lib.hid he4.range
                          have hi127 := Lib.hid (size166 S.1 hst.2.2.2)
                          have hz := (zero_of_info info166).1
                          have HTH := Lib.hid (there_of_block (heap_alloc_new wr (.cells (Array.replicate 127 (.int .i64 0)) 166)) 0 (S.1.map (Value.int .i64)).toArray.size (by rw [List.size_toArray, List.length_map, hst.2.2.2]; simp))
                          have hsz := Lib.hid (show (Try.prog.info? 166).map (·.size) = some (S.1.map (Value.int .i64)).toArray.size by rw [List.size_toArray]; exact hi127.out)
                          have hj2i : (127 - (j2 : Int) == 0) = false := by rw [beq_eq_false_iff_ne]; omega
                          have HST := Lib.hid hst
                          have HSK := Lib.hid hsok
                          have HCL := Lib.hid hcl
                          clear hst hsok hcl
                          have hmwi : (m : Int) < we := by omega
                          go_wp2_with (first | (refine wpList_load_mid rfl 166 _ rfl (w.heap.size + 1) 0 rfl (S.1.map (Value.int .i64)) _ HR.out Try.underlying166 rfl hi127.out ?_) | (refine wpList_store_mid rfl 166 _ _ rfl wr.heap.size 0 (S.1.map (Value.int .i64)).toArray rfl rfl HTH.out hsz.out (ints_all _ _) ?_; simp only [Act.put]))
                          clear HTH hz
                          refine wp_gen (fun W => Env w W p S.1 ∧ Wks W gl S.2 ∧ W.heap[wr.heap.size]? = some (.cells (S.1.map (Value.int .i64)).toArray 166 (0, 0))) ⟨?_, ?_, ?_⟩ ?_
                          · exact he4.below_to (below_setCells ((Below.refl _ _).alloc (Nat.le_refl _) _) (Nat.le_refl _) _ _)
                          · exact hwk4.block (by rw [setCells_other (by have := hwk4.lt; omega), Below.heap_alloc _ _ _ hwk4.lt])
                          · rw [setCells_block _ _ _ _ (heap_alloc_new wr _), spl_all _ _ (by simp [HST.out.2.2.2])]
                          have hTT : w.heap.size + 2 ≤ wr.heap.size := he4.size
                          have hTG : gl < wr.heap.size := hwk4.lt
                          generalize wr.heap.size = TT at hTT hTG ⊢
                          clear HR he4 hwk4
                          rintro W ⟨heW, hkW, hTW⟩
                          generalize hX : S.2.getD k default = x at HST HCL
                          have HX := Lib.hid hX
                          have hkS : k < S.2.length := by rw [HST.out.2.2.1]; exact hkl
                          have hset : S.2.set k x = S.2 := by rw [← hX]; simp [List.getD_eq_getElem?_getD, hkS]
                          have hxok := HST.out.1
                          obtain ⟨xs0, xs1, xp0, xp1, xt0, xt1, _, _⟩ := hxok
                          have hnear := near_of (a := x.pos) xt0 xt1 HSK.out.len (by rw [HSK.out.cnt]; omega)
                          generalize hT : seek S.1 x.st 127 x.pos = tg at HCL
                          have HTg := Lib.hid hT
                          have HKS := Lib.hid hkS
                          clear hX hkS hT
                          go_loopg [] 127 (fun n wr => ∃ pos : Int, 0 ≤ pos ∧ pos < 127 ∧ Hid (Near S.1 x.st n pos) ∧ Hid (seek S.1 x.st n pos = tg) ∧ Env w wr p S.1 ∧ Wks wr gl (S.2.set k { x with pos := pos }) ∧ wr.heap[TT]? = some (.cells (S.1.map (Value.int .i64)).toArray 166 (0, 0)))
                          case atStart => exact ⟨x.pos, xp0, xp1, hnear, HTg.out, heW, by rw [show ({ x with pos := x.pos } : Wk) = x from rfl, hset]; exact hkW, hTW⟩
                          case round =>
                            obtain ⟨pos, hp0, hp1, HN, HSe, he5, hk5, hT5⟩ := hrel
                            clear heW hkW hTW hnear hset xp0 xp1 xs0 xs1
                            have hks : k < (S.2.set k { x with pos := pos }).length := by rw [List.length_set]; exact HKS.out
                            have hg5 : (S.2.set k { x with pos := pos }).getD k default = { x with pos := pos } := by rw [wks_at _ _ _ _ HKS.out, if_pos rfl]
                            have d0 := hk5.cell k 0 hks (by omega) (v := I x.sl) (by rw [hg5]; rfl)
                            have d1 := hk5.cell k 1 hks (by omega) (v := I pos) (by rw [hg5]; rfl)
                            have d2 := hk5.cell k 2 hks (by omega) (v := I x.st) (by rw [hg5]; rfl)
                            have hfz := hk5.fz (k * 4 + 1)
                            have hl127 : S.1.length = 127 := HSK.out.len
                            have d3 := he5.cell pos.toNat (by omega)
                            have hfa := he5.fz pos.toNat
                            clear hl127 hks hg5
                            by_cases hfree : S.1.getD pos.toNat 0 = -1
                            · rw [hfree] at d3
                              have hpt : tg = pos := by
                                rw [← HSe.out]
                                obtain ⟨gk', rfl⟩ : ∃ m, gk = m + 1 := ⟨gk - 1, by have := HN.out.pos; omega⟩
                                exact seek_hit _ hfree
                              have HPT := Lib.hid hpt
                              clear hpt
                              rw [Nat.add_zero] at d0
                              go_wp2_with fail
                              have he6 : Env w ((wr.setCell ⟨w.heap.size + 1, pos.toNat, none⟩ (.int .i64 x.sl)).drew) p (S.1.set pos.toNat x.sl) := (he5.set pos.toNat x.sl).drew
                              have hk6 : Wks ((wr.setCell ⟨w.heap.size + 1, pos.toNat, none⟩ (.int .i64 x.sl)).drew) gl (S.2.set k { x with pos := pos }) := hk5.block (heap_setCell_other _ _ _ _ (by show gl ≠ w.heap.size + 1; omega))
                              have hT6 : ((wr.setCell ⟨w.heap.size + 1, pos.toNat, none⟩ (.int .i64 x.sl)).drew).heap[TT]? = some (.cells (S.1.map (Value.int .i64)).toArray 166 (0, 0)) := (heap_setCell_other _ _ _ _ (by show TT ≠ w.heap.size + 1; omega)).trans hT5
                              have hlS : (S.1.set pos.toNat x.sl).length = 127 := by rw [List.length_set]; exact HSK.out.len
                              have hdiff : ¬ S.1.set pos.toNat x.sl = S.1 := fun e => by
                                have hlt : pos.toNat < S.1.length := by rw [HSK.out.len]; omega
                                have h1 : (S.1.set pos.toNat x.sl).getD pos.toNat 0 = x.sl := by simp [List.getD_eq_getElem?_getD, hlt]
                                rw [e, hfree] at h1
                                have := HST.out.1.sl0
                                omega
                              generalize hS1 : S.1.set pos.toNat x.sl = S1 at he6 hlS hdiff
                              have HS1' := Lib.hid hS1
                              have hneq : ∀ W, (Op.equalIn 10000 166 (.agg (S1.map (Value.int .i64)).toArray) (.agg (S.1.map (Value.int .i64)).toArray)).run Try.prog W = .ok false W := fun W => by
                                rw [run_equalIn_ints W 9998 166 _ _ 127 3 .i64 Try.underlying166 Try.underlying3 (by kernel_rfl) hlS HSK.out.len]
                                simp [hdiff]
                              have HR6 := Lib.hid he6.range
                              have HR7 := Lib.hid (range_of hT6)
                              have HI6 := Lib.hid (size166 _ hlS)
                              have HE6 := Lib.hid he6
                              have HK6 := Lib.hid hk6
                              clear he6 hk6 hT6 hlS hdiff hS1
                              have hj2w : IntKind.i64.wrap (127 - (j2 : Int) - 1) = 127 - (j2 : Int) - 1 := IntWalk.i64_in _ (by omega)
                              refine wp_tail 10 (by kernel_rfl) (by kernel_rfl) ?_
                              simp only [List.take_succ_cons, List.take_zero, List.drop_succ_cons, List.drop_zero]
                              repeat still_step
                              refine wpStill_nil ?_
                              go_wp2_with (first | (refine wpList_load_mid rfl 166 _ rfl (w.heap.size + 1) 0 rfl (S1.map (Value.int .i64)) _ HR6.out Try.underlying166 rfl HI6.out ?_) | (refine wpList_load_mid rfl 166 _ rfl TT 0 rfl (S.1.map (Value.int .i64)) _ HR7.out Try.underlying166 rfl hi127.out ?_))
                              have hcl2 : stat L empty127 (j2 + 1) = (S1, S.2.set k { x with pos := pos }) := by
                                show claim (who L j2) (stat L empty127 j2) = _
                                rw [HS2.out, show who L j2 = k from by rw [HJ2.out]; exact who_at L r k m hkl (by rw [HWE.out]; exact hmw)]
                                simp only [claim, HX.out, HTg.out, HPT.out, HS1'.out]
                              have hJ3 : Hid (j2 + 1 = r * pre L L.length + (pre L k + (m + 1))) := by
                                show j2 + 1 = _; rw [HJ2.out]; omega
                              clear he5 hk5 hT5 d0 d1 d2 d3 hneq
                              go_roundg (we.toNat - (m + 1))
                              case measure => omega
                              case rel => exact ⟨j2 + 1, m + 1, rfl, by omega, by go_num, by go_num, by omega, hJ3, by rw [hcl2]; exact HE6.out, by rw [hcl2]; exact HK6.out⟩
                            · generalize hv : S.1.getD pos.toNat 0 = v3 at d3 hfree
                              have HV := Lib.hid hv
                              clear hv
                              have hb3 : (v3 == -1) = false := by rw [beq_eq_false_iff_ne]; exact hfree
                              have hwr : IntKind.i64.wrap (pos + x.st) = pos + x.st := IntWalk.i64_in _ (by omega)
                              go_wp2_with fail
                              refine wp_tail 14 (by kernel_rfl) (by kernel_rfl) ?_
                              simp only [List.take_succ_cons, List.take_zero, List.drop_succ_cons, List.drop_zero]
                              repeat still_step
                              refine wpStill_nil ?_
                              go_wp2_with fail
                              have hp2 : 0 ≤ (pos + x.st) % 127 ∧ (pos + x.st) % 127 < 127 := by omega
                              obtain ⟨gk', rfl⟩ : ∃ m, gk = m + 1 := ⟨gk - 1, by have := HN.out.pos; omega⟩
                              have hnn := HN.out.on hp0 hp1 (by rw [HV.out]; exact hfree)
                              have hse := HSe.out
                              rw [seek_on _ (by rw [HV.out]; exact hfree)] at hse
                              have he6 : Env w ((wr.setCell ⟨gl, k * 4 + 1, none⟩ (.int .i64 ((pos + x.st) % 127))).drew) p S.1 := (he5.far _ hgl _).drew
                              have hk6 : Wks ((wr.setCell ⟨gl, k * 4 + 1, none⟩ (.int .i64 ((pos + x.st) % 127))).drew) gl (S.2.set k { x with pos := (pos + x.st) % 127 }) := by
                                have h1 := hk5.set k (by rw [List.length_set]; exact HKS.out) ((pos + x.st) % 127)
                                rw [wks_at _ _ _ _ HKS.out, if_pos rfl, List.set_set] at h1
                                exact h1.block rfl
                              have hT6 : ((wr.setCell ⟨gl, k * 4 + 1, none⟩ (.int .i64 ((pos + x.st) % 127))).drew).heap[TT]? = some (.cells (S.1.map (Value.int .i64)).toArray 166 (0, 0)) := (heap_setCell_other _ _ _ _ (by show TT ≠ gl; omega)).trans hT5
                              clear he5 hk5 hT5 d0 d1 d2 d3
                              go_roundg gk'
                              case measure => omega
                              case rel => exact ⟨(pos + x.st) % 127, hp2.1, hp2.2, hnn, hse, he6, hk6, hT6⟩
                      · have hmw2 : m = we.toNat := by omega
                        have hJ3 : Hid (j2 = r * pre L L.length + pre L (k + 1)) := by
                          show j2 = _; rw [HJ2.out, pre_succ L k hkl, HWE.out, hmw2]
                        have hge : we ≤ (m : Int) := by omega
                        clear hmw2 hm hmw
                        go_wp2_with fail
                        go_roundg (L.length - (k + 1))
                        case measure => omega
                        case rel => exact ⟨j2, k + 1, rfl, by omega, rfl, by go_num, hj2, hJ3, he4, hwk4⟩
                  · have hkL : k = L.length := by omega
                    have hpp := pre_pos L hl0 HOK.out
                    have hJ3 : j1 = (r + 1) * pre L L.length := by rw [HJ.out, hkL, Nat.add_mul, Nat.one_mul]
                    have hgt : j < j1 := by rw [hJ3, HR.out, Nat.add_mul, Nat.one_mul]; omega
                    have HJ3 := Lib.hid hJ3
                    have hge : (L.length : Int) ≤ (k : Int) := by omega
                    clear hkL hJ3 hk hkl
                    go_wp2_with fail
                    go_roundg (127 - j1)
                    case measure => omega
                    case rel => exact ⟨j1, rfl, hj1, rfl, fun _ => ⟨r + 1, HJ3.out⟩, he3, hwk3⟩
              · have hj127 : j = 127 := by omega
                subst hj127
                have henv := he2
                clear he2 hwk2 hr hj hp hj7
                have hWl : (stat L empty127 127).1.length = 127 := (stat_ok HOK.out hl0 127 (by omega)).len
                have HLEN := Lib.hid (show ((stat L empty127 127).1.map (Value.int .i64)).length = 127 * 1 by rw [List.length_map, hWl])
                have HWH : Hid (wheel p = (stat L empty127 127).1) := by
                  have hl00 : L ≠ [] := fun e => by rw [e] at hl0; simp at hl0
                  unfold Hid wheel; rw [HL.out]; unfold wheelOf; rw [if_neg hl00]
                generalize hWW : (stat L empty127 127).1 = WW at henv hWl HLEN HWH
                clear hWW hWl
                have HN := Lib.hid henv.news
                have hbase : w.heap.size ≤ wr.heap.size := henv.below.size
                obtain ⟨j0, hj, jz0, jz1, jz2⟩ := info_parts info3
                go_wp2_with (at_builtin; refine wpList_append_own _ rfl _ _ 22 rfl w.heap.size 3 j0 (.int .i64 0) 1 8 Try.underlying22 hj jz0 jz1 jz2 rfl (by decide) (.slice none 0 0) 0 [] rfl (World.ownsRow_nil _ _ _ _) ⟨w.heap.size + 1, 0, none⟩ 127 127 (WW.map (Value.int .i64)) rfl HLEN.out HN.out (ints_one _) (by unfold maxLen; omega) (by omega) hbase ?_; intro v' w' hown' hgr _)
                go_ret
                exact ⟨v', rfl, by rw [HWH.out]; exact hown', henv.below.grown hgr hbase (fun k hk => by simp [Value.ownBlock] at hk)⟩
end Go.Proofs.Ytimdaceidhdaeaa
