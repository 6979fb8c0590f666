/- Proved: lemmas that the law's proof stands on (MakeS, MakeM, YardA, Sip, Sip2). Conditions: as each states. -/
import Derived.Deep.RegionHeld3
import Derived.Test.YtimdaceidhdaeaaProg
import Derived.StillTailTactics
import Derived.Deep.QuietTactic
import Derived.BigQuiet
import Derived.Test.YtimdaceidhdaeaaLawTwice01
import Derived.Test.YtimdaceidhdaeaaLawTwice02

namespace Go.Proofs.Ytimdaceidhdaeaa
open Go.RowKit Go.Proofs

/-- What holds of a pool behind n changes. -/
structure Po.fitN (p : Po) (n : Int) : Prop where
  ok : p.ok
  v0 : 0 ≤ p.ver
  v1 : p.ver ≤ n
  e0 : 0 ≤ p.ep
  e1 : p.ep ≤ n + 1
  s0 : ∀ i, 0 ≤ (p.slot i).si
  s1 : ∀ i, (p.slot i).si ≤ n + 1
theorem Po.fitN.fit {p : Po} {n : Int} (h : p.fitN n) (hn : n ≤ 999999) : p.fit :=
  ⟨h.ok, h.v0, by have := h.v1; omega, h.e0, by have := h.e1; omega, h.s0, fun i => by have := h.s1 i; omega⟩
theorem Po.fitN.mono {p : Po} {n m : Int} (h : p.fitN n) (hn : n ≤ m) : p.fitN m :=
  ⟨h.ok, h.v0, by have := h.v1; omega, h.e0, by have := h.e1; omega, h.s0, fun i => by have := h.s1 i; omega⟩
theorem Po.new_fitN (ad po : Int) (k n : Ke) : (Po.new ad po k n).fitN 0 := by
  refine ⟨Po.new_ok _ _ _ _, by simp [Po.new], by simp [Po.new], by simp [Po.new], by simp [Po.new], ?_, ?_⟩
  all_goals
    intro i
    unfold Po.slot Po.new
    rw [List.getD_eq_getElem?_getD, List.getElem?_replicate]
    split <;> simp [Sl.zero]
theorem slot_set (p : Po) (k i : Nat) (s : Sl) : ({ p with sl := p.sl.set k s } : Po).slot i = if k = i ∧ k < p.sl.length then s else p.slot i := by
  unfold Po.slot
  rw [List.getD_eq_getElem?_getD, List.getD_eq_getElem?_getD, List.getElem?_set]
  by_cases h : k = i
  · subst h
    by_cases h2 : k < p.sl.length
    · simp [h2]
    · simp [h2]
  · simp [h]
theorem slot_set2 (p : Po) (v : Int) (k i : Nat) (s : Sl) : ({ p with ver := v, sl := p.sl.set k s } : Po).slot i = if k = i ∧ k < p.sl.length then s else p.slot i := slot_set p k i s
theorem poDo_fitN {p : Po} {n : Int} (h : p.fitN n) (e : En) : (poDo p e).fitN (n + 1) := by
  obtain ⟨h1, h2, h3, h4, h5, h6, h7⟩ := h
  unfold poDo
  split
  · refine ⟨⟨h1.len⟩, ?_, ?_, ?_, ?_, h6, fun i => ?_⟩
    · show 0 ≤ p.ver + 1; omega
    · show p.ver + 1 ≤ n + 1; omega
    · show 0 ≤ p.ep + 1; omega
    · show p.ep + 1 ≤ n + 1 + 1; omega
    · have := h7 i
      have e : ({ p with ver := p.ver + 1, ep := p.ep + 1, k0 := p.k1, k1 := p.k2, k2 := e.ke } : Po).slot i = p.slot i := rfl
      rw [e]; omega
  · have hsd : 0 ≤ (slotDo e p.ep (p.slot e.sl.toNat)).si ∧ (slotDo e p.ep (p.slot e.sl.toNat)).si ≤ n + 1 := by
      have := h6 e.sl.toNat
      have := h7 e.sl.toNat
      unfold slotDo
      repeat' split
      all_goals first | (constructor <;> (try simp only [Sl.zero]) <;> omega)
    refine ⟨⟨by simp [h1.len]⟩, ?_, ?_, h4, ?_, fun i => ?_, fun i => ?_⟩
    · show 0 ≤ p.ver + 1; omega
    · show p.ver + 1 ≤ n + 1; omega
    · show p.ep ≤ n + 1 + 1; omega
    · rw [slot_set2]; split
      · exact hsd.1
      · exact h6 i
    · rw [slot_set2]; split
      · have := hsd.2; omega
      · have := h7 i; omega
theorem poDo_ver (p : Po) (e : En) : (poDo p e).ver = p.ver + 1 := by unfold poDo; split <;> rfl
def mkP (l : List Int) : Nat → Po
  | 0 => Po.new 10 80 (keyOf 1) (keyOf 2)
  | k + 1 => if apErr (mkP l k) (entryOf (l.getD k 0)) = 0 then poDo (mkP l k) (entryOf (l.getD k 0)) else mkP l k
def makeP (l : List Int) (most : Int) : Po := mkP l (min l.length most.toNat)
theorem mkP_fitN (l : List Int) : ∀ k : Nat, (mkP l k).fitN k
  | 0 => Po.new_fitN _ _ _ _
  | k + 1 => by
    unfold mkP
    split
    · exact poDo_fitN (mkP_fitN l k) _
    · exact (mkP_fitN l k).mono (by omega)
theorem makeP_fitN (l : List Int) (most : Int) (h : 0 ≤ most) : (makeP l most).fitN most := (mkP_fitN l _).mono (by omega)
/-- A slice of numbers, as it lies. -/
def IntsAt (w : World) (v : Value) (l : List Int) : Prop :=
  ((∃ a cap, v = .slice a 0 cap) ∧ l = []) ∨ ∃ b o cap, v = .slice (some ⟨b, o, none⟩) l.length cap ∧ b < w.heap.size ∧ ∀ i, i < l.length → w.cell? ⟨b, o + i, none⟩ = some (I (l.getD i 0))
end Go.Proofs.Ytimdaceidhdaeaa

namespace Go.Proofs.Ytimdaceidhdaeaa
open Go.RowKit Go.Proofs

/-- Make's blocks: its answer, and its pool. -/
structure MkE (w W : World) (g : Nat) (p : Po) : Prop where
  below : Below w.heap.size w W
  b0 : W.heap[w.heap.size]? = some (.cells Po.zero.cells.toArray 33 (0, 0))
  bg : W.heap[g]? = some (.cells p.cells.toArray 33 (0, 0))
  lt : w.heap.size < g
theorem MkE.trans {w W W' : World} {g : Nat} {p : Po} (h : MkE w W g p) (hb : Below W.heap.size W W') : MkE w W' g p :=
  ⟨h.below.trans (hb.mono h.below.size), below_block hb h.b0, below_block hb h.bg, h.lt⟩
theorem MkE.drew {w W : World} {g : Nat} {p : Po} (h : MkE w W g p) : MkE w W.drew g p := ⟨h.below.drew, h.b0, h.bg, h.lt⟩
structure SMk (w : World) (g : Nat) (q : Po) (b o : Nat) (n : Int) (W : World) : Prop where
  env : MkE w W g q
  bl : b < w.heap.size
  cell : W.cell? ⟨b, o, none⟩ = some (I n)
theorem SMk.grow {w : World} {g : Nat} {q : Po} {b o : Nat} {n : Int} {W W' : World} (h : SMk w g q b o n W) (hb : Below W.heap.size W W') : SMk w g q b o n W' :=
  ⟨h.env.trans hb, h.bl, (hb.cell (by have := h.env.below.size; have := h.bl; show b < _; omega)).trans h.cell⟩
theorem SMk.alloc {w : World} {g : Nat} {q : Po} {b o : Nat} {n : Int} {W : World} (h : SMk w g q b o n W) (x : Obj) : SMk w g q b o n (W.alloc x) := h.grow ((Below.refl _ _).alloc (Nat.le_refl _) _)
theorem SMk.drew {w : World} {g : Nat} {q : Po} {b o : Nat} {n : Int} {W : World} (h : SMk w g q b o n W) : SMk w g q b o n W.drew := h.grow (Below.refl _ _).drew
theorem MkE.put {w W : World} {g T : Nat} {q : Po} (h : MkE w W g q) (hT : g < T) (vs : List Value) : MkE w (W.setCells T 0 vs) g q :=
  ⟨below_setCells h.below (by have := h.lt; omega) _ _, (setCells_other (by have := h.lt; omega) _ _ _).trans h.b0, (setCells_other (by omega) _ _ _).trans h.bg, h.lt⟩
theorem cell_setCells_other {b T o : Nat} {W : World} (hk : b ≠ T) (vs : List Value) (j : Nat) : (W.setCells T j vs).cell? ⟨b, o, none⟩ = W.cell? ⟨b, o, none⟩ := World.cell?_of_block (setCells_other hk vs j W)
theorem SMk.put {w : World} {g T : Nat} {q : Po} {b o : Nat} {n : Int} {W : World} (h : SMk w g q b o n W) (hT : g < T) (vs : List Value) : SMk w g q b o n (W.setCells T 0 vs) :=
  ⟨h.env.put hT vs, h.bl, (cell_setCells_other (by have := h.env.lt; have := h.bl; omega) _ _).trans h.cell⟩
set_option maxHeartbeats 4000000 in
set_option maxRecDepth 100000 in
theorem law6_Make_some (b o cap : Nat) (l : List Int) (most : Int) (w : World) (hb : b < w.heap.size) (hc : ∀ i, i < l.length → w.cell? ⟨b, o + i, none⟩ = some (I (l.getD i 0))) (h0 : 0 ≤ most) (h1 : most ≤ 1000) :
    Calls Try.prog 10 #[.slice (some ⟨b, o, none⟩) l.length cap, .int .i64 most] w fun r w' => r = .returned (makeP l most).v ∧ Below w.heap.size w w' := by
  have hz := fun w => zero33 w
  go_enter Try.func10, Try.ntmps10
  go_wp2_with (first
    | (go_at_call 30; refine (law5_Key _ _).mono ?_; rintro r w' ⟨rfl, rfl⟩)
    | (go_at_call 29; refine (ref6_New 10 80 (keyOf 1) (keyOf 2) _ (by decide) (by decide) (by decide) (by decide)).mono ?_; rintro r w3 ⟨rfl, hb3⟩
       have h0 : w3.heap[w.heap.size]? = some (.cells Po.zero.cells.toArray 33 (0, 0)) := (hb3.block _ (by simp; omega)).trans (heap_old_at (by simp; omega) (heap_old_at (by simp) (heap_new_at (by simp))))
       have HB := Lib.hid (((((Below.refl w.heap.size w).alloc (Nat.le_refl _) (.cells Po.zero.cells.toArray 33)).alloc (by simp) _).alloc (by simp; omega) _).trans (hb3.mono (by simp; omega)))
       clear hb3
       have HZ := Lib.hid h0
       clear h0
       have HI := Lib.hid (size33s (Po.new 10 80 (keyOf 1) (keyOf 2)) (Po.new_ok _ _ _ _))
       have HO := Lib.hid (Po.one (Po.new 10 80 (keyOf 1) (keyOf 2)))
       have HN := Lib.hid (heap_alloc_new w3 (.cells Po.zero.cells.toArray 33))
       have HT := Lib.hid (there_of_block HN.out 0 (Po.new 10 80 (keyOf 1) (keyOf 2)).cells.toArray.size (by simp [Po.cells_len _ (Po.new_ok 10 80 (keyOf 1) (keyOf 2)), Po.cells_len _ Po.zero_ok]))
       have HR := Lib.hid (row_stored HN.out (vs := (Po.new 10 80 (keyOf 1) (keyOf 2)).cells) (by simp [Po.cells_len _ (Po.new_ok 10 80 (keyOf 1) (keyOf 2)), Po.cells_len _ Po.zero_ok]))
       unfold Po.v)
    | (refine wpList_store_mid rfl 33 _ _ rfl w3.heap.size 0 _ rfl rfl HT.out HI.out HO.out ?_))
  have hM : MkE w ((w3.alloc (.cells Po.zero.cells.toArray 33)).setCells w3.heap.size 0 (Po.new 10 80 (keyOf 1) (keyOf 2)).cells) w3.heap.size (mkP l 0) :=
    ⟨below_setCells (HB.out.alloc HB.out.size _) HB.out.size _ _, (setCells_other (by have := heap_lt HZ.out; omega) _ _ _).trans (heap_old_at (heap_lt HZ.out) HZ.out), HR.out, heap_lt HZ.out⟩
  refine wp_gen (fun W => MkE w W w3.heap.size (mkP l 0)) hM ?_
  clear hM HN HT HR HI HO HB HZ
  generalize w3.heap.size = g
  clear w3
  intro w1 hM
  go_loopw [7] (fun i wr => ∃ k : Nat, k ≤ l.length ∧ k ≤ most.toNat ∧ i = .int .i64 k ∧ MkE w wr g (mkP l k)) (fun i _ => most.toNat - (intOf i).toNat)
  case atStart => exact ⟨0, by omega, by omega, rfl, hM⟩
  case round =>
    obtain ⟨k, hk, hk2, rfl, hE⟩ := hrel
    clear hM
    by_cases c1 : k < l.length
    · by_cases c2 : (k : Int) < most
      · have d1 : decide ((k : Int) < (l.length : Int)) = true := decide_eq_true (by omega)
        have d2 : decide ((k : Int) < most) = true := decide_eq_true c2
        have HC := Lib.hid hc
        clear hc
        go_wp2_with fail
        have hq := mkP_fitN l k
        have hqf := hq.fit (by omega)
        have hn := (hE.below.cell (p := ⟨b, o + k, none⟩) hb).trans (HC.out k c1)
        have HM : Bx (mkP l (k + 1) = if apErr (mkP l k) (entryOf (l.getD k 0)) = 0 then poDo (mkP l k) (entryOf (l.getD k 0)) else mkP l k) := ⟨rfl⟩
        have HE6 := Bx.mk (fun W => law6_Entry (l.getD k 0) W)
        have HA6 := Bx.mk (fun W => ref6_Apply (mkP l k) (entryOf (l.getD k 0)) W hqf)
        have HAO : Bx (applyP (mkP l k) (entryOf (l.getD k 0))).ok := ⟨by unfold applyP; split; exact poDo_ok hq.ok _; exact Po.zero_ok⟩
        have HAZ : Bx (apErr (mkP l k) (entryOf (l.getD k 0)) = 0 → applyP (mkP l k) (entryOf (l.getD k 0)) = poDo (mkP l k) (entryOf (l.getD k 0))) := ⟨fun h => by unfold applyP; rw [if_pos h]⟩
        generalize apErr (mkP l k) (entryOf (l.getD k 0)) = er at HM HA6 HAZ
        generalize applyP (mkP l k) (entryOf (l.getD k 0)) = r at HA6 HAO HAZ
        have HJ := Lib.hid (size33 _ hq.ok)
        generalize poDo (mkP l k) (entryOf (l.getD k 0)) = rd at HM HAZ
        generalize entryOf (l.getD k 0) = en at HE6 HA6
        clear hq hqf
        have HI := Lib.hid (size33s r HAO.out)
        have HI2 := Lib.hid (size33 r HAO.out)
        have HO := Lib.hid (Po.one r)
        have HQK := Bx.mk (mkP_fitN l k).ok
        generalize hqq : mkP l k = q at *
        clear hqq
        generalize l.getD k 0 = n at hn HE6
        have hS : SMk w g q b (o + k) n wr := ⟨hE, hb, hn⟩
        clear hE hn
        unfold Po.v at HA6
        refine wp_region_noPanic ?_
        refine wp_region_held_drew (S := SMk w g q b (o + k) n) (by kernel_rfl) hS.drew ?_
        clear hS
        intro hS
        generalize wr.drew = X at hS ⊢
        have k0 : (0 : Int) ≤ (k : Int) := by omega
        refine wpAnyH_take (i := 0) (v := .agg q.cells.toArray) rfl (by kernel_rfl) (by kernel_rfl) (by kernel_rfl) (fun _ _ _ h => h) (yieldsIf_load_mid (by rfl) 33 _ rfl g 0 rfl q.cells _ (fun W h => pool_range h.env.bg) Try.underlying33 rfl HJ.out) (by assumption) ?_
        simp only [List.getElem_toArray, List.getElem_cons_succ, List.getElem_cons_zero, Act.put, List.setIfInBounds_toArray, List.set_cons_zero, List.set_cons_succ]
        refine wpAnyH_take (i := 1) (v := ?_) rfl (by kernel_rfl) (by kernel_rfl) (by kernel_rfl) (fun _ _ _ h => h) (Or.inl ⟨by rfl, ?_⟩) (by assumption) ?_
        rotate_left
        · intro W1 h1; clear h1; go_simp; first | done | with_reducible rfl
        simp only [List.getElem_toArray, List.getElem_cons_succ, List.getElem_cons_zero, Act.put, List.setIfInBounds_toArray, List.set_cons_zero, List.set_cons_succ]
        refine wpAnyH_take (i := 2) (v := ?_) rfl (by kernel_rfl) (by kernel_rfl) (by kernel_rfl) (fun _ _ _ h => h) (Or.inl ⟨by rfl, ?_⟩) (by assumption) ?_
        rotate_left
        · intro W1 h1; clear h1; go_simp; first | done | with_reducible rfl
        simp only [List.getElem_toArray, List.getElem_cons_succ, List.getElem_cons_zero, Act.put, List.setIfInBounds_toArray, List.set_cons_zero, List.set_cons_succ]
        refine wpAnyH_take (i := 3) (v := ?_) rfl (by kernel_rfl) (by kernel_rfl) (by kernel_rfl) (fun _ _ _ h => h) (Or.inl ⟨by rfl, ?_⟩) (by assumption) ?_
        rotate_left
        · intro W1 h1; clear h1; go_simp; first | done | with_reducible rfl
        simp only [List.getElem_toArray, List.getElem_cons_succ, List.getElem_cons_zero, Act.put, List.setIfInBounds_toArray, List.set_cons_zero, List.set_cons_succ]
        refine wpAnyH_take (i := 4) (v := ?_) rfl (by kernel_rfl) (by kernel_rfl) (by kernel_rfl) (fun _ _ _ h => h) (Or.inl ⟨by rfl, ?_⟩) (by assumption) ?_
        rotate_left
        · intro W1 h1; have d3 := h1.cell; clear h1; go_simp; first | done | with_reducible rfl
        simp only [List.getElem_toArray, List.getElem_cons_succ, List.getElem_cons_zero, Act.put, List.setIfInBounds_toArray, List.set_cons_zero, List.set_cons_succ]
        refine wpAnyH_ready (rs := [5, 10]) (by kernel_rfl) (by simp) ?_
        refine AllReadyH.cons rfl (fun K hK => ?_) (AllReadyH.cons rfl (fun K hK => ?_) AllReadyH.nil)
        · go_simp
          refine (HE6.out _).mono ?_
          rintro e Z ⟨rfl, hbz⟩
          refine hK.out _ _ (hS.grow hbz) (fun hS1 => ?_)
          clear hK K
          refine wpAnyH_ready (rs := [6, 10]) (by kernel_rfl) (by simp) ?_
          refine AllReadyH.cons rfl (fun K hK => ?_) (AllReadyH.cons rfl (fun K hK => ?_) AllReadyH.nil)
          · go_simp
            refine (HA6.out _).mono ?_
            rintro e Z2 ⟨rfl, hbz2⟩
            refine hK.out _ _ (hS1.grow hbz2) (fun hS2 => ?_)
            clear hK K
            clear hbz hbz2
            refine wpAnyH_take (i := 7) (v := ?_) rfl (by kernel_rfl) (by kernel_rfl) (by kernel_rfl) (fun _ _ _ h => h) (Or.inl ⟨by rfl, ?_⟩) (by assumption) ?_
            rotate_left
            · intro W1 h1; clear h1; go_simp; first | done | with_reducible rfl
            simp only [List.getElem_toArray, List.getElem_cons_succ, List.getElem_cons_zero, Act.put, List.setIfInBounds_toArray, List.set_cons_zero, List.set_cons_succ]
            refine wpAnyH_take (i := 8) (v := ?_) rfl (by kernel_rfl) (by kernel_rfl) (by kernel_rfl) (fun _ _ _ h => h) (Or.inl ⟨by rfl, ?_⟩) (by assumption) ?_
            rotate_left
            · intro W1 h1; clear h1; go_simp; first | done | with_reducible rfl
            simp only [List.getElem_toArray, List.getElem_cons_succ, List.getElem_cons_zero, Act.put, List.setIfInBounds_toArray, List.set_cons_zero, List.set_cons_succ]
            refine wpAnyH_take (i := 9) (v := ?_) rfl (by kernel_rfl) (by kernel_rfl) (by kernel_rfl) (fun _ _ _ h => h) (Or.inl ⟨by rfl, ?_⟩) (by assumption) ?_
            rotate_left
            · intro W1 h1; clear h1; go_simp; first | done | with_reducible rfl
            simp only [List.getElem_toArray, List.getElem_cons_succ, List.getElem_cons_zero, Act.put, List.setIfInBounds_toArray, List.set_cons_zero, List.set_cons_succ]
            refine wpAnyH_ready (rs := [10]) (by kernel_rfl) (by simp) ?_
            refine AllReadyH.cons rfl (fun K hK => ?_) AllReadyH.nil
            go_simp
            refine hK.out _ _ (hS2.alloc _) (fun hS3 => ?_)
            clear hK K
            have hA := heap_alloc_new Z2 (.cells Po.zero.cells.toArray 33)
            have hgT : g < Z2.heap.size := heap_lt hS2.env.bg
            generalize hT : Z2.heap.size = T at hA hgT ⊢
            clear hT
            generalize World.alloc Z2 _ = Y at hS3 hA ⊢
            refine wpAnyH_ready (rs := [11]) (by kernel_rfl) (by simp) ?_
            refine AllReadyH.cons rfl (fun K hK => ?_) AllReadyH.nil
            rw [if_pos (by simp [Region.wanted])]
            simp only [List.getElem_toArray, List.getElem_cons_succ, List.getElem_cons_zero]
            have hthere := there_of_block hA 0 r.cells.toArray.size (by rw [List.size_toArray, Po.cells_len _ HAO.out, List.size_toArray, Po.cells_len _ Po.zero_ok]; decide)
            refine wp_store_mid 33 (.tmp 8) (.tmp 35) ?_ T 0 r.cells.toArray ?_ ?_ hthere HI.out HO.out ?_
            · rfl
            · simp [Act.eval]
            · simp [Act.eval]
            refine hK.out _ _ (hS3.put hgT r.cells) (fun hS9 => ?_)
            clear hK K
            have hB := row_stored hA (vs := r.cells) (by rw [Po.cells_len _ HAO.out, List.size_toArray, Po.cells_len _ Po.zero_ok])
            have hS8 := hS9
            replace hS9 := hS9.env
            simp only [List.toList_toArray]
            generalize World.setCells _ T 0 r.cells = V at hS8 hS9 hB ⊢
            clear hA
            simp only [List.getElem_toArray, List.getElem_cons_succ, List.getElem_cons_zero, Act.put, List.setIfInBounds_toArray, List.set_cons_zero, List.set_cons_succ]
            refine wpAnyH_ready (rs := [12]) (by kernel_rfl) (by simp) ?_
            refine AllReadyH.cons rfl (fun K hK => ?_) AllReadyH.nil
            go_simp
            refine hK.out _ _ ?_ (fun _ => ?_)
            · exact hS8
            clear hK K
            refine wpAnyH_done (by kernel_rfl) ?_ _
            refine NoPanic.normal ?_
            by_cases z : er = 0
            · have z1 : (er == 0) = true := beq_iff_eq.2 z
              have hmk : Bx (mkP l (k + 1) = r) := ⟨by rw [HM.out, if_pos z, HAZ.out z]⟩
              clear z
              have HRT := Lib.hid (pool_range hB)
              have HTg := Lib.hid (there_of_block hS9.bg 0 r.cells.toArray.size (by rw [List.size_toArray, Po.cells_len _ HAO.out, List.size_toArray, Po.cells_len _ HQK.out]; decide))
              have hE9 : MkE w (V.setCells g 0 r.cells) g r := ⟨below_setCells hS9.below (by have := hS9.lt; omega) _ _, (setCells_other (by have := hS9.lt; omega) _ _ _).trans hS9.b0, row_stored hS9.bg (by rw [Po.cells_len _ HAO.out, List.size_toArray, Po.cells_len _ HQK.out]), hS9.lt⟩
              clear hS9 hB
              go_wp2_with (first
                | (refine wpList_load_mid rfl 33 _ rfl T 0 rfl r.cells _ HRT.out Try.underlying33 rfl HI2.out ?_)
                | (refine wpList_store_mid rfl 33 _ _ rfl g 0 _ rfl rfl HTg.out HI.out HO.out ?_))
              go_roundw
              case rel => exact ⟨k + 1, by omega, by omega, by go_num, by rw [hmk.out]; exact hE9⟩
              case measure => simp [intOf]; omega
            · have z1 : (er == 0) = false := beq_eq_false_iff_ne.2 z
              have hmk : Bx (mkP l (k + 1) = q) := ⟨by rw [HM.out, if_neg z]⟩
              clear z hB
              go_wp2_with fail
              go_roundw
              case rel => exact ⟨k + 1, by omega, by omega, by go_num, by rw [hmk.out]; exact hS9⟩
              case measure => simp [intOf]; omega
          · go_simp
            refine hK.out _ _ (hS1.alloc _) (fun hS2 => ?_)
            clear hK K
            have hA := heap_alloc_new Z (.cells Po.zero.cells.toArray 33)
            have hgT : g < Z.heap.size := heap_lt hS1.env.bg
            generalize hT : Z.heap.size = T at hA hgT ⊢
            clear hT
            generalize World.alloc Z _ = Y at hS2 hA ⊢
            clear hbz
            refine wpAnyH_ready (rs := [6]) (by kernel_rfl) (by simp) ?_
            refine AllReadyH.cons rfl (fun K hK => ?_) AllReadyH.nil
            go_simp
            refine (HA6.out _).mono ?_
            rintro e Z2 ⟨rfl, hbz2⟩
            refine hK.out _ _ (hS2.grow hbz2) (fun hS3 => ?_)
            clear hK K
            replace hA := below_block hbz2 hA
            clear hbz2
            refine wpAnyH_take (i := 7) (v := ?_) rfl (by kernel_rfl) (by kernel_rfl) (by kernel_rfl) (fun _ _ _ h => h) (Or.inl ⟨by rfl, ?_⟩) (by assumption) ?_
            rotate_left
            · intro W1 h1; clear h1; go_simp; first | done | with_reducible rfl
            simp only [List.getElem_toArray, List.getElem_cons_succ, List.getElem_cons_zero, Act.put, List.setIfInBounds_toArray, List.set_cons_zero, List.set_cons_succ]
            refine wpAnyH_take (i := 8) (v := ?_) rfl (by kernel_rfl) (by kernel_rfl) (by kernel_rfl) (fun _ _ _ h => h) (Or.inl ⟨by rfl, ?_⟩) (by assumption) ?_
            rotate_left
            · intro W1 h1; clear h1; go_simp; first | done | with_reducible rfl
            simp only [List.getElem_toArray, List.getElem_cons_succ, List.getElem_cons_zero, Act.put, List.setIfInBounds_toArray, List.set_cons_zero, List.set_cons_succ]
            refine wpAnyH_take (i := 9) (v := ?_) rfl (by kernel_rfl) (by kernel_rfl) (by kernel_rfl) (fun _ _ _ h => h) (Or.inl ⟨by rfl, ?_⟩) (by assumption) ?_
            rotate_left
            · intro W1 h1; clear h1; go_simp; first | done | with_reducible rfl
            simp only [List.getElem_toArray, List.getElem_cons_succ, List.getElem_cons_zero, Act.put, List.setIfInBounds_toArray, List.set_cons_zero, List.set_cons_succ]
            refine wpAnyH_ready (rs := [11]) (by kernel_rfl) (by simp) ?_
            refine AllReadyH.cons rfl (fun K hK => ?_) AllReadyH.nil
            rw [if_pos (by simp [Region.wanted])]
            simp only [List.getElem_toArray, List.getElem_cons_succ, List.getElem_cons_zero]
            have hthere := there_of_block hA 0 r.cells.toArray.size (by rw [List.size_toArray, Po.cells_len _ HAO.out, List.size_toArray, Po.cells_len _ Po.zero_ok]; decide)
            refine wp_store_mid 33 (.tmp 8) (.tmp 35) ?_ T 0 r.cells.toArray ?_ ?_ hthere HI.out HO.out ?_
            · rfl
            · simp [Act.eval]
            · simp [Act.eval]
            refine hK.out _ _ (hS3.put hgT r.cells) (fun hS9 => ?_)
            clear hK K
            have hB := row_stored hA (vs := r.cells) (by rw [Po.cells_len _ HAO.out, List.size_toArray, Po.cells_len _ Po.zero_ok])
            have hS8 := hS9
            replace hS9 := hS9.env
            simp only [List.toList_toArray]
            generalize World.setCells _ T 0 r.cells = V at hS8 hS9 hB ⊢
            clear hA
            simp only [List.getElem_toArray, List.getElem_cons_succ, List.getElem_cons_zero, Act.put, List.setIfInBounds_toArray, List.set_cons_zero, List.set_cons_succ]
            refine wpAnyH_ready (rs := [12]) (by kernel_rfl) (by simp) ?_
            refine AllReadyH.cons rfl (fun K hK => ?_) AllReadyH.nil
            go_simp
            refine hK.out _ _ ?_ (fun _ => ?_)
            · exact hS8
            clear hK K
            refine wpAnyH_done (by kernel_rfl) ?_ _
            refine NoPanic.normal ?_
            by_cases z : er = 0
            · have z1 : (er == 0) = true := beq_iff_eq.2 z
              have hmk : Bx (mkP l (k + 1) = r) := ⟨by rw [HM.out, if_pos z, HAZ.out z]⟩
              clear z
              have HRT := Lib.hid (pool_range hB)
              have HTg := Lib.hid (there_of_block hS9.bg 0 r.cells.toArray.size (by rw [List.size_toArray, Po.cells_len _ HAO.out, List.size_toArray, Po.cells_len _ HQK.out]; decide))
              have hE9 : MkE w (V.setCells g 0 r.cells) g r := ⟨below_setCells hS9.below (by have := hS9.lt; omega) _ _, (setCells_other (by have := hS9.lt; omega) _ _ _).trans hS9.b0, row_stored hS9.bg (by rw [Po.cells_len _ HAO.out, List.size_toArray, Po.cells_len _ HQK.out]), hS9.lt⟩
              clear hS9 hB
              go_wp2_with (first
                | (refine wpList_load_mid rfl 33 _ rfl T 0 rfl r.cells _ HRT.out Try.underlying33 rfl HI2.out ?_)
                | (refine wpList_store_mid rfl 33 _ _ rfl g 0 _ rfl rfl HTg.out HI.out HO.out ?_))
              go_roundw
              case rel => exact ⟨k + 1, by omega, by omega, by go_num, by rw [hmk.out]; exact hE9⟩
              case measure => simp [intOf]; omega
            · have z1 : (er == 0) = false := beq_eq_false_iff_ne.2 z
              have hmk : Bx (mkP l (k + 1) = q) := ⟨by rw [HM.out, if_neg z]⟩
              clear z hB
              go_wp2_with fail
              go_roundw
              case rel => exact ⟨k + 1, by omega, by omega, by go_num, by rw [hmk.out]; exact hS9⟩
              case measure => simp [intOf]; omega
        · go_simp
          refine hK.out _ _ (hS.alloc _) (fun hS1 => ?_)
          clear hK K
          have hA := heap_alloc_new X (.cells Po.zero.cells.toArray 33)
          have hgT : g < X.heap.size := heap_lt hS.env.bg
          generalize hT : X.heap.size = T at hA hgT ⊢
          clear hT
          generalize World.alloc X _ = Y at hS1 hA ⊢
          refine wpAnyH_ready (rs := [5]) (by kernel_rfl) (by simp) ?_
          refine AllReadyH.cons rfl (fun K hK => ?_) AllReadyH.nil
          go_simp
          refine (HE6.out _).mono ?_
          rintro e Z ⟨rfl, hbz⟩
          refine hK.out _ _ (hS1.grow hbz) (fun hS2 => ?_)
          clear hK K
          replace hA := below_block hbz hA
          clear hbz
          refine wpAnyH_ready (rs := [6]) (by kernel_rfl) (by simp) ?_
          refine AllReadyH.cons rfl (fun K hK => ?_) AllReadyH.nil
          go_simp
          refine (HA6.out _).mono ?_
          rintro e Z2 ⟨rfl, hbz2⟩
          refine hK.out _ _ (hS2.grow hbz2) (fun hS3 => ?_)
          clear hK K
          replace hA := below_block hbz2 hA
          clear hbz2
          refine wpAnyH_take (i := 7) (v := ?_) rfl (by kernel_rfl) (by kernel_rfl) (by kernel_rfl) (fun _ _ _ h => h) (Or.inl ⟨by rfl, ?_⟩) (by assumption) ?_
          rotate_left
          · intro W1 h1; clear h1; go_simp; first | done | with_reducible rfl
          simp only [List.getElem_toArray, List.getElem_cons_succ, List.getElem_cons_zero, Act.put, List.setIfInBounds_toArray, List.set_cons_zero, List.set_cons_succ]
          refine wpAnyH_take (i := 8) (v := ?_) rfl (by kernel_rfl) (by kernel_rfl) (by kernel_rfl) (fun _ _ _ h => h) (Or.inl ⟨by rfl, ?_⟩) (by assumption) ?_
          rotate_left
          · intro W1 h1; clear h1; go_simp; first | done | with_reducible rfl
          simp only [List.getElem_toArray, List.getElem_cons_succ, List.getElem_cons_zero, Act.put, List.setIfInBounds_toArray, List.set_cons_zero, List.set_cons_succ]
          refine wpAnyH_take (i := 9) (v := ?_) rfl (by kernel_rfl) (by kernel_rfl) (by kernel_rfl) (fun _ _ _ h => h) (Or.inl ⟨by rfl, ?_⟩) (by assumption) ?_
          rotate_left
          · intro W1 h1; clear h1; go_simp; first | done | with_reducible rfl
          simp only [List.getElem_toArray, List.getElem_cons_succ, List.getElem_cons_zero, Act.put, List.setIfInBounds_toArray, List.set_cons_zero, List.set_cons_succ]
          refine wpAnyH_ready (rs := [11]) (by kernel_rfl) (by simp) ?_
          refine AllReadyH.cons rfl (fun K hK => ?_) AllReadyH.nil
          rw [if_pos (by simp [Region.wanted])]
          simp only [List.getElem_toArray, List.getElem_cons_succ, List.getElem_cons_zero]
          have hthere := there_of_block hA 0 r.cells.toArray.size (by rw [List.size_toArray, Po.cells_len _ HAO.out, List.size_toArray, Po.cells_len _ Po.zero_ok]; decide)
          refine wp_store_mid 33 (.tmp 8) (.tmp 35) ?_ T 0 r.cells.toArray ?_ ?_ hthere HI.out HO.out ?_
          · rfl
          · simp [Act.eval]
          · simp [Act.eval]
          refine hK.out _ _ (hS3.put hgT r.cells) (fun hS9 => ?_)
          clear hK K
          have hB := row_stored hA (vs := r.cells) (by rw [Po.cells_len _ HAO.out, List.size_toArray, Po.cells_len _ Po.zero_ok])
          have hS8 := hS9
          replace hS9 := hS9.env
          simp only [List.toList_toArray]
          generalize World.setCells _ T 0 r.cells = V at hS8 hS9 hB ⊢
          clear hA
          simp only [List.getElem_toArray, List.getElem_cons_succ, List.getElem_cons_zero, Act.put, List.setIfInBounds_toArray, List.set_cons_zero, List.set_cons_succ]
          refine wpAnyH_ready (rs := [12]) (by kernel_rfl) (by simp) ?_
          refine AllReadyH.cons rfl (fun K hK => ?_) AllReadyH.nil
          go_simp
          refine hK.out _ _ ?_ (fun _ => ?_)
          · exact hS8
          clear hK K
          refine wpAnyH_done (by kernel_rfl) ?_ _
          refine NoPanic.normal ?_
          by_cases z : er = 0
          · have z1 : (er == 0) = true := beq_iff_eq.2 z
            have hmk : Bx (mkP l (k + 1) = r) := ⟨by rw [HM.out, if_pos z, HAZ.out z]⟩
            clear z
            have HRT := Lib.hid (pool_range hB)
            have HTg := Lib.hid (there_of_block hS9.bg 0 r.cells.toArray.size (by rw [List.size_toArray, Po.cells_len _ HAO.out, List.size_toArray, Po.cells_len _ HQK.out]; decide))
            have hE9 : MkE w (V.setCells g 0 r.cells) g r := ⟨below_setCells hS9.below (by have := hS9.lt; omega) _ _, (setCells_other (by have := hS9.lt; omega) _ _ _).trans hS9.b0, row_stored hS9.bg (by rw [Po.cells_len _ HAO.out, List.size_toArray, Po.cells_len _ HQK.out]), hS9.lt⟩
            clear hS9 hB
            go_wp2_with (first
              | (refine wpList_load_mid rfl 33 _ rfl T 0 rfl r.cells _ HRT.out Try.underlying33 rfl HI2.out ?_)
              | (refine wpList_store_mid rfl 33 _ _ rfl g 0 _ rfl rfl HTg.out HI.out HO.out ?_))
            go_roundw
            case rel => exact ⟨k + 1, by omega, by omega, by go_num, by rw [hmk.out]; exact hE9⟩
            case measure => simp [intOf]; omega
          · have z1 : (er == 0) = false := beq_eq_false_iff_ne.2 z
            have hmk : Bx (mkP l (k + 1) = q) := ⟨by rw [HM.out, if_neg z]⟩
            clear z hB
            go_wp2_with fail
            go_roundw
            case rel => exact ⟨k + 1, by omega, by omega, by go_num, by rw [hmk.out]; exact hS9⟩
            case measure => simp [intOf]; omega
      · have d1 : decide ((k : Int) < (l.length : Int)) = true := decide_eq_true (by omega)
        have d2 : decide ((k : Int) < most) = false := decide_eq_false c2
        have hq := (mkP_fitN l k).ok
        have hmk : Bx (makeP l most = mkP l k) := ⟨by unfold makeP; congr 1; omega⟩
        have HJ := Lib.hid (size33 _ hq)
        have HI := Lib.hid (size33s _ hq)
        have HO := Lib.hid (Po.one (mkP l k))
        have HRg := Lib.hid (pool_range hE.bg)
        have HT := Lib.hid (there_of_block hE.b0 0 (mkP l k).cells.toArray.size (by rw [List.size_toArray, Po.cells_len _ hq, List.size_toArray, Po.cells_len _ Po.zero_ok]; decide))
        have HR := Lib.hid (row_stored hE.b0 (vs := (mkP l k).cells) (by rw [Po.cells_len _ hq, List.size_toArray, Po.cells_len _ Po.zero_ok]))
        generalize mkP l k = q at *
        go_wp2_with (first
          | (refine wpList_load_mid rfl 33 _ rfl g 0 rfl q.cells _ HRg.out Try.underlying33 rfl HJ.out ?_)
          | (refine wpList_store_mid rfl 33 _ _ rfl w.heap.size 0 _ rfl rfl HT.out HI.out HO.out ?_))
        exact bodyPost_ret (results_cell Try.results10 _ _ w.heap.size _ _ rfl (pool_range HR.out) Try.underlying33 rfl (size33 _ hq)) rfl ⟨by rw [hmk.out]; rfl, below_setCells hE.below (Nat.le_refl _) _ _⟩
    · have d1 : decide ((k : Int) < (l.length : Int)) = false := decide_eq_false (by omega)
      have hq := (mkP_fitN l k).ok
      have hmk : Bx (makeP l most = mkP l k) := ⟨by unfold makeP; congr 1; omega⟩
      have HJ := Lib.hid (size33 _ hq)
      have HI := Lib.hid (size33s _ hq)
      have HO := Lib.hid (Po.one (mkP l k))
      have HRg := Lib.hid (pool_range hE.bg)
      have HT := Lib.hid (there_of_block hE.b0 0 (mkP l k).cells.toArray.size (by rw [List.size_toArray, Po.cells_len _ hq, List.size_toArray, Po.cells_len _ Po.zero_ok]; decide))
      have HR := Lib.hid (row_stored hE.b0 (vs := (mkP l k).cells) (by rw [Po.cells_len _ hq, List.size_toArray, Po.cells_len _ Po.zero_ok]))
      generalize mkP l k = q at *
      go_wp2_with (first
        | (refine wpList_load_mid rfl 33 _ rfl g 0 rfl q.cells _ HRg.out Try.underlying33 rfl HJ.out ?_)
        | (refine wpList_store_mid rfl 33 _ _ rfl w.heap.size 0 _ rfl rfl HT.out HI.out HO.out ?_))
      exact bodyPost_ret (results_cell Try.results10 _ _ w.heap.size _ _ rfl (pool_range HR.out) Try.underlying33 rfl (size33 _ hq)) rfl ⟨by rw [hmk.out]; rfl, below_setCells hE.below (Nat.le_refl _) _ _⟩
set_option maxHeartbeats 4000000 in
set_option maxRecDepth 100000 in
theorem law6_Make_nil (a0 : Option Addr) (cap : Nat) (most : Int) (w : World) :
    Calls Try.prog 10 #[.slice a0 0 cap, .int .i64 most] w fun r w' => r = .returned (makeP [] most).v ∧ Below w.heap.size w w' := by
  have hz := fun w => zero33 w
  go_enter Try.func10, Try.ntmps10
  go_wp2_with (first
    | (go_at_call 30; refine (law5_Key _ _).mono ?_; rintro r w' ⟨rfl, rfl⟩)
    | (go_at_call 29; refine (ref6_New 10 80 (keyOf 1) (keyOf 2) _ (by decide) (by decide) (by decide) (by decide)).mono ?_; rintro r w3 ⟨rfl, hb3⟩
       have h0 : w3.heap[w.heap.size]? = some (.cells Po.zero.cells.toArray 33 (0, 0)) := (hb3.block _ (by simp; omega)).trans (heap_old_at (by simp; omega) (heap_old_at (by simp) (heap_new_at (by simp))))
       have HB := Lib.hid (((((Below.refl w.heap.size w).alloc (Nat.le_refl _) (.cells Po.zero.cells.toArray 33)).alloc (by simp) _).alloc (by simp; omega) _).trans (hb3.mono (by simp; omega)))
       clear hb3
       have HZ := Lib.hid h0
       clear h0
       have HI := Lib.hid (size33s (Po.new 10 80 (keyOf 1) (keyOf 2)) (Po.new_ok _ _ _ _))
       have HO := Lib.hid (Po.one (Po.new 10 80 (keyOf 1) (keyOf 2)))
       have HN := Lib.hid (heap_alloc_new w3 (.cells Po.zero.cells.toArray 33))
       have HT := Lib.hid (there_of_block HN.out 0 (Po.new 10 80 (keyOf 1) (keyOf 2)).cells.toArray.size (by simp [Po.cells_len _ (Po.new_ok 10 80 (keyOf 1) (keyOf 2)), Po.cells_len _ Po.zero_ok]))
       have HR := Lib.hid (row_stored HN.out (vs := (Po.new 10 80 (keyOf 1) (keyOf 2)).cells) (by simp [Po.cells_len _ (Po.new_ok 10 80 (keyOf 1) (keyOf 2)), Po.cells_len _ Po.zero_ok]))
       unfold Po.v)
    | (refine wpList_store_mid rfl 33 _ _ rfl w3.heap.size 0 _ rfl rfl HT.out HI.out HO.out ?_))
  have hM : MkE w ((w3.alloc (.cells Po.zero.cells.toArray 33)).setCells w3.heap.size 0 (Po.new 10 80 (keyOf 1) (keyOf 2)).cells) w3.heap.size (mkP [] 0) :=
    ⟨below_setCells (HB.out.alloc HB.out.size _) HB.out.size _ _, (setCells_other (by have := heap_lt HZ.out; omega) _ _ _).trans (heap_old_at (heap_lt HZ.out) HZ.out), HR.out, heap_lt HZ.out⟩
  refine wp_gen (fun W => MkE w W w3.heap.size (mkP [] 0)) hM ?_
  clear hM HN HT HR HI HO HB HZ
  generalize w3.heap.size = g
  clear w3
  intro w1 hM
  go_loopw [7] (fun i wr => i = .int .i64 0 ∧ MkE w wr g (mkP [] 0)) (fun _ _ => 0)
  case atStart => exact ⟨rfl, hM⟩
  case round =>
    obtain ⟨rfl, hE⟩ := hrel
    clear hM
    have hq := (mkP_fitN [] 0).ok
    have hmk : Bx (makeP [] most = mkP [] 0) := ⟨by unfold makeP; simp⟩
    have HJ := Lib.hid (size33 _ hq)
    have HI := Lib.hid (size33s _ hq)
    have HO := Lib.hid (Po.one (mkP [] 0))
    have HRg := Lib.hid (pool_range hE.bg)
    have HT := Lib.hid (there_of_block hE.b0 0 (mkP [] 0).cells.toArray.size (by rw [List.size_toArray, Po.cells_len _ hq, List.size_toArray, Po.cells_len _ Po.zero_ok]; decide))
    have HR := Lib.hid (row_stored hE.b0 (vs := (mkP [] 0).cells) (by rw [Po.cells_len _ hq, List.size_toArray, Po.cells_len _ Po.zero_ok]))
    generalize mkP [] 0 = q at *
    go_wp2_with (first
      | (refine wpList_load_mid rfl 33 _ rfl g 0 rfl q.cells _ HRg.out Try.underlying33 rfl HJ.out ?_)
      | (refine wpList_store_mid rfl 33 _ _ rfl w.heap.size 0 _ rfl rfl HT.out HI.out HO.out ?_))
    exact bodyPost_ret (results_cell Try.results10 _ _ w.heap.size _ _ rfl (pool_range HR.out) Try.underlying33 rfl (size33 _ hq)) rfl ⟨by rw [hmk.out]; rfl, below_setCells hE.below (Nat.le_refl _) _ _⟩
theorem law6_Make (v : Value) (l : List Int) (most : Int) (w : World) (hv : IntsAt w v l) (h0 : 0 ≤ most) (h1 : most ≤ 1000) :
    Calls Try.prog 10 #[v, .int .i64 most] w fun r w' => r = .returned (makeP l most).v ∧ Below w.heap.size w w' := by
  rcases hv with ⟨⟨a0, cap, rfl⟩, rfl⟩ | ⟨b, o, cap, rfl, hb, hc⟩
  · exact law6_Make_nil a0 cap most w
  · exact law6_Make_some b o cap l most w hb hc h0 h1
end Go.Proofs.Ytimdaceidhdaeaa

namespace Go.Proofs.Ytimdaceidhdaeaa
open Go.RowKit Go.Proofs

/-- A plane, as its block holds it. -/
structure Pl where
  x : Po
  is : Bool
  near : List Value
  w : Value
def Pl.cells (q : Pl) : List Value := q.x.cells ++ (.bool q.is :: (q.near ++ [q.w]))
def near0 : List Value := (List.replicate 64 [Value.int .u32 0, Value.bool false]).flatten
def Pl.zero : Pl := ⟨Po.zero, false, near0, .slice none 0 0⟩
structure Pl.ok (q : Pl) : Prop where
  x : q.x.ok
  near : q.near.length = 128
  one : ∀ v ∈ q.near ++ [q.w], v.oneCell' = true
theorem Pl.zero_ok : Pl.zero.ok := ⟨Po.zero_ok, by simp [Pl.zero, near0], by simp [Pl.zero, near0, Value.oneCell']⟩
theorem Pl.cells_len (q : Pl) (h : q.ok) : q.cells.length = 460 := by simp [Pl.cells, Po.cells_len _ h.x, h.near]
theorem build_plane0 (w : World) : (Instr.build 131 #[]).run Try.prog w = .ok (.agg Pl.zero.cells.toArray) w := by kernel_rfl
def planeAt (w : World) (b : Nat) (q : Pl) : Prop := w.heap[b]? = some (.cells q.cells.toArray 131 (0, 0))
set_option maxHeartbeats 1000000 in
theorem plane_New (w : World) : Calls Try.prog 34 #[] w fun r w' => r = .returned (.pointer (some ⟨w.heap.size, 0, none⟩)) ∧ w' = w.alloc (.cells Pl.zero.cells.toArray 131 (0, 0)) := by
  go_enter Try.func34, Try.ntmps34
  go_wp2_with (first
    | (refine wpList_run_build rfl 131 _ rfl (.agg Pl.zero.cells.toArray) ?_ ?_; (simp only [List.map_toArray, List.map_nil]; exact build_plane0 _)))
  go_ret
  exact ⟨rfl, rfl⟩
set_option maxHeartbeats 1000000 in
theorem plane_Version (b : Nat) (q : Pl) (w : World) (hq : planeAt w b q) (hk : q.ok) : Calls Try.prog 42 #[.pointer (some ⟨b, 0, none⟩)] w fun r w' => r = .returned (.tuple #[I q.x.ver, .bool q.is]) ∧ ∃ n, w' = w.drewN n := by
  have c0 : w.cell? ⟨b, 0, none⟩ = some (I q.x.ver) := by rw [cell_of_row _ _ _ _ _ _ hq, List.getElem?_toArray]; simp [Pl.cells, Po.cells]
  have c1 : w.cell? ⟨b, 330, none⟩ = some (.bool q.is) := by rw [cell_of_row _ _ _ _ _ _ hq, List.getElem?_toArray, Pl.cells, List.getElem?_append_right (by rw [Po.cells_len _ hk.x]; exact Nat.le_refl _), Po.cells_len _ hk.x]; rfl
  clear hq
  go_enter Try.func42, Try.ntmps42
  go_wp2_with fail
  go_quiet (fail)
  go_wp2_with fail
  exact bodyPost_ret (results_tmp2 rfl _ _ _) rfl ⟨rfl, nq, rfl⟩

/-- Blocks outside of F stand. -/
structure Kp (F : Nat → Prop) (w w' : World) : Prop where
  os : w'.os = w.os
  tape : w'.tape = w.tape
  output : w'.output = w.output
  size : w.heap.size ≤ w'.heap.size
  block : ∀ k, k < w.heap.size → ¬ F k → w'.heap[k]? = w.heap[k]?
theorem Kp.refl (F : Nat → Prop) (w : World) : Kp F w w := ⟨rfl, rfl, rfl, Nat.le_refl _, fun _ _ _ => rfl⟩
theorem Kp.trans {F : Nat → Prop} {a b c : World} (h : Kp F a b) (k : Kp F b c) : Kp F a c :=
  ⟨k.os.trans h.os, k.tape.trans h.tape, k.output.trans h.output, Nat.le_trans h.size k.size, fun i hi hf => (k.block i (Nat.lt_of_lt_of_le hi h.size) hf).trans (h.block i hi hf)⟩
theorem Kp.mono {F G : Nat → Prop} {a b : World} (h : Kp F a b) (hg : ∀ k, k < a.heap.size → F k → G k) : Kp G a b :=
  ⟨h.os, h.tape, h.output, h.size, fun i hi hf => h.block i hi (fun x => hf (hg i hi x))⟩
theorem Kp.of_below {F : Nat → Prop} {a b : World} (h : Below a.heap.size a b) : Kp F a b := ⟨h.os, h.tape, h.output, h.size, fun i hi _ => h.block i hi⟩
theorem spl_front (A A' B : List Value) (h : A'.length = A.length) : spl (A ++ B).toArray 0 A' = (A' ++ B).toArray := by
  apply Array.ext
  · rw [spl_size]; simp [h]
  intro i h1 h2
  apply Option.some.inj
  rw [← Array.getElem?_eq_getElem h1, ← Array.getElem?_eq_getElem h2]
  have hi : i < (A ++ B).toArray.size := by rw [spl_size] at h1; exact h1
  rw [spl_get _ _ _ _ hi]
  simp only [Nat.zero_le, true_and, Nat.zero_add, Nat.sub_zero, List.getElem?_toArray]
  by_cases c : i < A'.length
  · rw [if_pos c, List.getElem?_append_left c]
  · rw [if_neg c, List.getElem?_append_right (by omega), List.getElem?_append_right (by omega), h]
theorem Pl.set_is (q : Pl) (hx : q.x.ok) (v : Bool) : q.cells.toArray.setIfInBounds 330 (.bool v) = ({ q with is := v } : Pl).cells.toArray := by
  simp only [Pl.cells, List.setIfInBounds_toArray]
  rw [List.set_append_right _ _ (by rw [Po.cells_len _ hx]; exact Nat.le_refl _), Po.cells_len _ hx]
  rfl
theorem Kp.setCell {F : Nat → Prop} {w : World} {p : Addr} (hp : F p.block) (v : Value) : Kp F w (w.setCell p v) := by
  have h := (Below.refl 0 w).setCell (p := p) (Nat.zero_le _) v
  exact ⟨h.os, h.tape, h.output, h.size, fun k _ hk => Below.heap_setCell _ _ _ _ (fun e => hk (e ▸ hp))⟩
set_option maxHeartbeats 1000000 in
theorem plane_lay (b : Nat) (q : Pl) (x : Po) (w : World) (hq : planeAt w b q) (hk : q.ok) (hx : x.ok) :
    Calls Try.prog 79 #[.pointer (some ⟨b, 0, none⟩), x.v] w fun r w' => r = .returned (.tuple #[]) ∧ planeAt w' b { q with x := x, is := true } ∧ Kp (fun k => k = b) w w' := by
  have hlt := heap_lt hq
  have hw1 := heap_alloc_new w (.cells x.cells.toArray 33)
  have hq1 : (w.alloc (.cells x.cells.toArray 33)).heap[b]? = some (.cells q.cells.toArray 131 (0, 0)) := heap_old_at hlt hq
  have hB : Kp (fun k => k = b) w (w.alloc (.cells x.cells.toArray 33)) := Kp.of_below ((Below.refl _ _).alloc (Nat.le_refl _) _)
  have HR := Lib.hid (pool_range hw1)
  have HT := Lib.hid (there_of_block hq1 0 x.cells.toArray.size (by rw [List.size_toArray, Po.cells_len _ hx, List.size_toArray, Pl.cells_len _ hk]; decide))
  have HI := Lib.hid (size33 x hx)
  have HI2 := Lib.hid (size33s x hx)
  have HO := Lib.hid (Po.one x)
  have hs : ((w.alloc (.cells x.cells.toArray 33)).setCells b 0 x.cells).heap[b]? = some (.cells ({ q with x := x } : Pl).cells.toArray 131 (0, 0)) := by
    have := setCells_block x.cells 0 _ _ hq1
    rw [Pl.cells, spl_front _ _ _ (by rw [Po.cells_len _ hx, Po.cells_len _ hk.x])] at this
    exact this
  have hB2 : Kp (fun k => k = b) w ((w.alloc (.cells x.cells.toArray 33)).setCells b 0 x.cells) :=
    hB.trans ⟨(setCells_rest _ _ _).1, (setCells_rest _ _ _).2.1, (setCells_rest _ _ _).2.2, by rw [setCells_size]; exact Nat.le_refl _, fun k _ hk => setCells_other hk _ _ _⟩
  have HS := Lib.hid hs
  have HB2 := Lib.hid hB2
  clear hs hB2 hB hq1 hw1 hq
  unfold Po.v
  go_enter Try.func79, Try.ntmps79
  go_wp2_with (first
    | (refine wpList_load_mid rfl 33 _ rfl w.heap.size 0 rfl x.cells _ HR.out Try.underlying33 rfl HI.out ?_)
    | (refine wpList_store_mid rfl 33 _ _ rfl b 0 _ rfl rfl HT.out HI2.out HO.out ?_
       simp only [List.toList_toArray]
       generalize (w.alloc (.cells x.cells.toArray 33)).setCells b 0 x.cells = W at HS HB2 ⊢
       have c0 : W.cell? ⟨b, 330, none⟩ = some (.bool q.is) := by rw [cell_of_row _ _ _ _ _ _ HS.out, List.getElem?_toArray, Pl.cells, List.getElem?_append_right (by rw [Po.cells_len _ hx]; exact Nat.le_refl _), Po.cells_len _ hx]; rfl
       have f0 := frozen_of_row _ _ 330 _ _ HS.out))
  have hp := setCell_block HS.out 330 (.bool true)
  rw [Pl.set_is _ hx true] at hp
  have hlW : b < W.heap.size := heap_lt HS.out
  exact bodyPost_end (results_none rfl _ _ _) rfl ⟨rfl, hp, HB2.out.trans (Kp.setCell (F := fun k => k = b) (p := ⟨b, 330, none⟩) rfl _)⟩
end Go.Proofs.Ytimdaceidhdaeaa

namespace Go.Proofs.Ytimdaceidhdaeaa
open Go.RowKit Go.Proofs

set_option maxHeartbeats 400000 in
theorem rotl13 (x : Int) (w : World) : Calls Try.prog 98 #[.int .u64 x, .int .i64 13] w fun e w' => e = .returned (.int .u64 (rotl x 13)) ∧ w' = w := by
  have hb : bits BinOp.and IntKind.u64 13 63 = 13 := by decide
  go_enter Try.func98, Try.ntmps98
  go_wp2
  go_ret
  exact ⟨by simp [rotl], rfl⟩
set_option maxHeartbeats 400000 in
theorem rotl16 (x : Int) (w : World) : Calls Try.prog 98 #[.int .u64 x, .int .i64 16] w fun e w' => e = .returned (.int .u64 (rotl x 16)) ∧ w' = w := by
  have hb : bits BinOp.and IntKind.u64 16 63 = 16 := by decide
  go_enter Try.func98, Try.ntmps98
  go_wp2
  go_ret
  exact ⟨by simp [rotl], rfl⟩
set_option maxHeartbeats 400000 in
theorem rotl17 (x : Int) (w : World) : Calls Try.prog 98 #[.int .u64 x, .int .i64 17] w fun e w' => e = .returned (.int .u64 (rotl x 17)) ∧ w' = w := by
  have hb : bits BinOp.and IntKind.u64 17 63 = 17 := by decide
  go_enter Try.func98, Try.ntmps98
  go_wp2
  go_ret
  exact ⟨by simp [rotl], rfl⟩
set_option maxHeartbeats 400000 in
theorem rotl21 (x : Int) (w : World) : Calls Try.prog 98 #[.int .u64 x, .int .i64 21] w fun e w' => e = .returned (.int .u64 (rotl x 21)) ∧ w' = w := by
  have hb : bits BinOp.and IntKind.u64 21 63 = 21 := by decide
  go_enter Try.func98, Try.ntmps98
  go_wp2
  go_ret
  exact ⟨by simp [rotl], rfl⟩
set_option maxHeartbeats 400000 in
theorem rotl32 (x : Int) (w : World) : Calls Try.prog 98 #[.int .u64 x, .int .i64 32] w fun e w' => e = .returned (.int .u64 (rotl x 32)) ∧ w' = w := by
  have hb : bits BinOp.and IntKind.u64 32 63 = 32 := by decide
  go_enter Try.func98, Try.ntmps98
  go_wp2
  go_ret
  exact ⟨by simp [rotl], rfl⟩

set_option maxHeartbeats 1000000 in
set_option maxRecDepth 100000 in
theorem sip_round (g : Nat) (s : St) (w : World) (hg : w.heap[g]? = some (.cells s.cells 183 (0, 0))) :
    Calls Try.prog 97 #[.pointer (some ⟨g, 0, none⟩)] w fun e w' => e = .returned (.tuple #[]) ∧ Put g (.cells s.round.cells 183) w w' := by
  have hp := Put.refl hg
  obtain ⟨w0, hw0⟩ : ∃ w0, w0 = w := ⟨w, rfl⟩
  rw [← hw0] at hp
  have hp : Put g (.cells #[.int .u64 s.a, .int .u64 s.b, .int .u64 s.c, .int .u64 s.d] 183 (0, 0)) w0 w := by rw [hw0] at hp ⊢; exact hp
  clear hg
  rw [show (fun (e : Ending) (w' : World) => e = .returned (.tuple #[]) ∧ Put g (.cells s.round.cells 183) w w') = (fun (e : Ending) (w' : World) => e = .returned (.tuple #[]) ∧ Put g (.cells s.round.cells 183) w0 w') from by rw [hw0]]
  clear hw0
  go_enter Try.func97, Try.ntmps97
  have c0 := hp.cellAt 0 rfl
  have c1 := hp.cellAt 1 rfl
  have c2 := hp.cellAt 2 rfl
  have c3 := hp.cellAt 3 rfl
  have f0 := hp.fz 0
  have f1 := hp.fz 1
  have f2 := hp.fz 2
  have f3 := hp.fz 3
  go_wp2_with fail
  refine wp_tail 11 (by kernel_rfl) (by kernel_rfl) ?_
  simp only [List.take_succ_cons, List.take_zero, List.drop_succ_cons, List.drop_zero]
  repeat still_step
  refine wpStill_nil ?_
  go_wp2_with fail
  refine wp_gen (fun w1 => Put g (.cells #[.int .u64 ((pl (s.a) (s.b))), .int .u64 (s.b), .int .u64 (s.c), .int .u64 (s.d)] 183 (0, 0)) w0 w1) (by first | exact (hp.setCell 0 _).drew | exact hp.drew.setCell 0 _ | exact (((hp.setCell _ _).setCell _ _).drew).of rfl) ?_
  clear hp c0 c1 c2 c3 f0 f1 f2 f3
  intro w hp
  have c0 := hp.cellAt 0 rfl
  have c1 := hp.cellAt 1 rfl
  have c2 := hp.cellAt 2 rfl
  have c3 := hp.cellAt 3 rfl
  have f0 := hp.fz 0
  have f1 := hp.fz 1
  have f2 := hp.fz 2
  have f3 := hp.fz 3
  refine wp_tail 13 (by kernel_rfl) (by kernel_rfl) ?_
  simp only [List.take_succ_cons, List.take_zero, List.drop_succ_cons, List.drop_zero]
  repeat still_step
  still_call (rotl13 _ _)
  repeat still_step
  refine wpStill_nil ?_
  go_wp2_with (go_at_call 98; refine (rotl32 _ _).mono ?_; rintro e w' ⟨rfl, rfl⟩)
  refine wp_gen (fun w1 => Put g (.cells #[.int .u64 ((rotl ((pl (s.a) (s.b))) 32)), .int .u64 ((xo (rotl (s.b) 13) ((pl (s.a) (s.b))))), .int .u64 (s.c), .int .u64 (s.d)] 183 (0, 0)) w0 w1) (by first | exact (hp.setCell 0 _).drew | exact hp.drew.setCell 0 _ | exact (((hp.setCell _ _).setCell _ _).drew).of rfl) ?_
  clear hp c0 c1 c2 c3 f0 f1 f2 f3
  intro w hp
  have c0 := hp.cellAt 0 rfl
  have c1 := hp.cellAt 1 rfl
  have c2 := hp.cellAt 2 rfl
  have c3 := hp.cellAt 3 rfl
  have f0 := hp.fz 0
  have f1 := hp.fz 1
  have f2 := hp.fz 2
  have f3 := hp.fz 3
  refine wp_tail 11 (by kernel_rfl) (by kernel_rfl) ?_
  simp only [List.take_succ_cons, List.take_zero, List.drop_succ_cons, List.drop_zero]
  repeat still_step
  refine wpStill_nil ?_
  go_wp2_with fail
  refine wp_gen (fun w1 => Put g (.cells #[.int .u64 ((rotl ((pl (s.a) (s.b))) 32)), .int .u64 ((xo (rotl (s.b) 13) ((pl (s.a) (s.b))))), .int .u64 ((pl (s.c) (s.d))), .int .u64 (s.d)] 183 (0, 0)) w0 w1) (by first | exact (hp.setCell 2 _).drew | exact hp.drew.setCell 2 _ | exact (((hp.setCell _ _).setCell _ _).drew).of rfl) ?_
  clear hp c0 c1 c2 c3 f0 f1 f2 f3
  intro w hp
  have c0 := hp.cellAt 0 rfl
  have c1 := hp.cellAt 1 rfl
  have c2 := hp.cellAt 2 rfl
  have c3 := hp.cellAt 3 rfl
  have f0 := hp.fz 0
  have f1 := hp.fz 1
  have f2 := hp.fz 2
  have f3 := hp.fz 3
  refine wp_tail 13 (by kernel_rfl) (by kernel_rfl) ?_
  simp only [List.take_succ_cons, List.take_zero, List.drop_succ_cons, List.drop_zero]
  repeat still_step
  still_call (rotl16 _ _)
  repeat still_step
  refine wpStill_nil ?_
  go_wp2_with fail
  refine wp_gen (fun w1 => Put g (.cells #[.int .u64 ((rotl ((pl (s.a) (s.b))) 32)), .int .u64 ((xo (rotl (s.b) 13) ((pl (s.a) (s.b))))), .int .u64 ((pl (s.c) (s.d))), .int .u64 ((xo (rotl (s.d) 16) ((pl (s.c) (s.d)))))] 183 (0, 0)) w0 w1) (by first | exact (hp.setCell 3 _).drew | exact hp.drew.setCell 3 _ | exact (((hp.setCell _ _).setCell _ _).drew).of rfl) ?_
  clear hp c0 c1 c2 c3 f0 f1 f2 f3
  intro w hp
  have c0 := hp.cellAt 0 rfl
  have c1 := hp.cellAt 1 rfl
  have c2 := hp.cellAt 2 rfl
  have c3 := hp.cellAt 3 rfl
  have f0 := hp.fz 0
  have f1 := hp.fz 1
  have f2 := hp.fz 2
  have f3 := hp.fz 3
  refine wp_tail 11 (by kernel_rfl) (by kernel_rfl) ?_
  simp only [List.take_succ_cons, List.take_zero, List.drop_succ_cons, List.drop_zero]
  repeat still_step
  refine wpStill_nil ?_
  go_wp2_with fail
  refine wp_gen (fun w1 => Put g (.cells #[.int .u64 ((pl ((rotl ((pl (s.a) (s.b))) 32)) ((xo (rotl (s.d) 16) ((pl (s.c) (s.d))))))), .int .u64 ((xo (rotl (s.b) 13) ((pl (s.a) (s.b))))), .int .u64 ((pl (s.c) (s.d))), .int .u64 ((xo (rotl (s.d) 16) ((pl (s.c) (s.d)))))] 183 (0, 0)) w0 w1) (by first | exact (hp.setCell 0 _).drew | exact hp.drew.setCell 0 _ | exact (((hp.setCell _ _).setCell _ _).drew).of rfl) ?_
  clear hp c0 c1 c2 c3 f0 f1 f2 f3
  intro w hp
  have c0 := hp.cellAt 0 rfl
  have c1 := hp.cellAt 1 rfl
  have c2 := hp.cellAt 2 rfl
  have c3 := hp.cellAt 3 rfl
  have f0 := hp.fz 0
  have f1 := hp.fz 1
  have f2 := hp.fz 2
  have f3 := hp.fz 3
  refine wp_tail 13 (by kernel_rfl) (by kernel_rfl) ?_
  simp only [List.take_succ_cons, List.take_zero, List.drop_succ_cons, List.drop_zero]
  repeat still_step
  still_call (rotl21 _ _)
  repeat still_step
  refine wpStill_nil ?_
  go_wp2_with fail
  refine wp_gen (fun w1 => Put g (.cells #[.int .u64 ((pl ((rotl ((pl (s.a) (s.b))) 32)) ((xo (rotl (s.d) 16) ((pl (s.c) (s.d))))))), .int .u64 ((xo (rotl (s.b) 13) ((pl (s.a) (s.b))))), .int .u64 ((pl (s.c) (s.d))), .int .u64 ((xo (rotl ((xo (rotl (s.d) 16) ((pl (s.c) (s.d))))) 21) ((pl ((rotl ((pl (s.a) (s.b))) 32)) ((xo (rotl (s.d) 16) ((pl (s.c) (s.d)))))))))] 183 (0, 0)) w0 w1) (by first | exact (hp.setCell 3 _).drew | exact hp.drew.setCell 3 _ | exact (((hp.setCell _ _).setCell _ _).drew).of rfl) ?_
  clear hp c0 c1 c2 c3 f0 f1 f2 f3
  intro w hp
  have c0 := hp.cellAt 0 rfl
  have c1 := hp.cellAt 1 rfl
  have c2 := hp.cellAt 2 rfl
  have c3 := hp.cellAt 3 rfl
  have f0 := hp.fz 0
  have f1 := hp.fz 1
  have f2 := hp.fz 2
  have f3 := hp.fz 3
  refine wp_tail 11 (by kernel_rfl) (by kernel_rfl) ?_
  simp only [List.take_succ_cons, List.take_zero, List.drop_succ_cons, List.drop_zero]
  repeat still_step
  refine wpStill_nil ?_
  go_wp2_with fail
  refine wp_gen (fun w1 => Put g (.cells #[.int .u64 ((pl ((rotl ((pl (s.a) (s.b))) 32)) ((xo (rotl (s.d) 16) ((pl (s.c) (s.d))))))), .int .u64 ((xo (rotl (s.b) 13) ((pl (s.a) (s.b))))), .int .u64 ((pl ((pl (s.c) (s.d))) ((xo (rotl (s.b) 13) ((pl (s.a) (s.b))))))), .int .u64 ((xo (rotl ((xo (rotl (s.d) 16) ((pl (s.c) (s.d))))) 21) ((pl ((rotl ((pl (s.a) (s.b))) 32)) ((xo (rotl (s.d) 16) ((pl (s.c) (s.d)))))))))] 183 (0, 0)) w0 w1) (by first | exact (hp.setCell 2 _).drew | exact hp.drew.setCell 2 _ | exact (((hp.setCell _ _).setCell _ _).drew).of rfl) ?_
  clear hp c0 c1 c2 c3 f0 f1 f2 f3
  intro w hp
  have c0 := hp.cellAt 0 rfl
  have c1 := hp.cellAt 1 rfl
  have c2 := hp.cellAt 2 rfl
  have c3 := hp.cellAt 3 rfl
  have f0 := hp.fz 0
  have f1 := hp.fz 1
  have f2 := hp.fz 2
  have f3 := hp.fz 3
  refine wp_tail 13 (by kernel_rfl) (by kernel_rfl) ?_
  simp only [List.take_succ_cons, List.take_zero, List.drop_succ_cons, List.drop_zero]
  repeat still_step
  still_call (rotl17 _ _)
  repeat still_step
  refine wpStill_nil ?_
  go_wp2_with (go_at_call 98; refine (rotl32 _ _).mono ?_; rintro e w' ⟨rfl, rfl⟩)
  go_end0
  refine ⟨rfl, ?_⟩
  exact (((hp.setCell _ _).setCell _ _).drew).of rfl
end Go.Proofs.Ytimdaceidhdaeaa

namespace Go.Proofs.Ytimdaceidhdaeaa
open Go.RowKit Go.Proofs

set_option maxHeartbeats 400000 in
theorem sip_rounds (g n : Nat) (s : St) (w : World) (hn : n ≤ 8) (hg : w.heap[g]? = some (.cells s.cells 183 (0, 0))) :
    Calls Try.prog 95 #[.pointer (some ⟨g, 0, none⟩), .int .i64 n] w fun e w' => e = .returned (.tuple #[]) ∧ Put g (.cells (s.rounds n).cells 183) w w' := by
  have hp := Put.refl hg
  clear hg
  go_enter Try.func95, Try.ntmps95
  go_wp2_with fail
  go_loopw [5] (fun i wr => ∃ k : Nat, k ≤ n ∧ i = .int .i64 k ∧ Put g (.cells (s.rounds k).cells 183) w wr) (fun i _ => n - (intOf i).toNat)
  case atStart => exact ⟨0, by omega, rfl, hp⟩
  case round =>
    obtain ⟨k, hk, rfl, hp1⟩ := hrel
    have hg1 := Lib.hid hp1.get
    by_cases hlt : k < n
    · go_wp2_with (go_at_call 97; refine (sip_round g _ _ hg1.out).mono ?_; rintro e w2 ⟨rfl, hp2⟩)
      go_roundw
      case rel => exact ⟨k + 1, by omega, by go_num, by rw [St.rounds_succ]; exact hp1.trans hp2⟩
      case measure => simp [intOf]; omega
    · go_wp2_with fail
      go_end0
      have : k = n := by omega
      subst this
      exact ⟨rfl, hp1⟩

set_option maxHeartbeats 400000 in
theorem sip_number (bs : List Int) (b off c : Nat) (w : World) (hm : bs.length ≤ 1000000000) (hb : ∀ i, 0 ≤ bs.getD i 0 ∧ bs.getD i 0 ≤ 255) (hc : ∀ i, i < bs.length → w.cell? ⟨b, off + i, none⟩ = some (.int .u8 (bs.getD i 0))) :
    Calls Try.prog 94 #[.slice (some ⟨b, off, none⟩) bs.length c] w fun e w' => e = .returned (.int .u64 (num bs)) ∧ w' = w := by
  by_cases h8 : bs.length ≤ 8
  all_goals
    go_enter Try.func94, Try.ntmps94
    go_wp2_with fail
  · have h8' : bs.length ≤ 8 := by omega
    go_loop [3, 4, 8] (fun o _ i => ∃ k : Nat, k ≤ bs.length ∧ i = .int .i64 k ∧ o = .int .u64 (numTo bs k)) (fun _ _ i => bs.length - (intOf i).toNat)
    case atStart => exact ⟨0, by omega, rfl, rfl⟩
    case round =>
      obtain ⟨k, hk, rfl, rfl⟩ := hrel
      by_cases hlt : k < bs.length
      · have h1 := hc k (by omega)
        obtain ⟨b0, b1⟩ := hb k
        generalize hx : bs.getD k 0 = x at h1 b0 b1
        have HX := Lib.hid hx
        clear hx hc hb
        have hl2 : k < bs.length := by omega
        go_wp2_with fail
        exact ⟨⟨k + 1, by omega, by go_num, by simp only [numTo, HX.out]⟩, by simp [intOf]; omega⟩
      · go_wp2_with fail
        go_ret
        have hk' : k = bs.length := by omega
        clear hc hb hlt
        rw [hk']
        exact ⟨by rw [show num bs = numTo bs bs.length from by unfold num; rw [Nat.min_eq_left (by omega)]]; rfl, rfl⟩
  · have h8' : bs.length ≥ 8 := by omega
    go_loop [3, 4, 8] (fun o _ i => ∃ k : Nat, k ≤ 8 ∧ i = .int .i64 k ∧ o = .int .u64 (numTo bs k)) (fun _ _ i => 8 - (intOf i).toNat)
    case atStart => exact ⟨0, by omega, rfl, rfl⟩
    case round =>
      obtain ⟨k, hk, rfl, rfl⟩ := hrel
      by_cases hlt : k < 8
      · have h1 := hc k (by omega)
        obtain ⟨b0, b1⟩ := hb k
        generalize hx : bs.getD k 0 = x at h1 b0 b1
        have HX := Lib.hid hx
        clear hx hc hb
        have hl2 : k < bs.length := by omega
        go_wp2_with fail
        exact ⟨⟨k + 1, by omega, by go_num, by simp only [numTo, HX.out]⟩, by simp [intOf]; omega⟩
      · go_wp2_with fail
        go_ret
        have hk' : k = 8 := by omega
        subst hk'
        exact ⟨by rw [show num bs = numTo bs 8 from by unfold num; rw [Nat.min_eq_right (by omega)]]; rfl, rfl⟩

set_option maxHeartbeats 400000 in
theorem sip_number0 (a : Option Addr) (c : Nat) (w : World) :
    Calls Try.prog 94 #[.slice a 0 c] w fun e w' => e = .returned (.int .u64 (num [])) ∧ w' = w := by
  go_enter Try.func94, Try.ntmps94
  go_wp2_with fail
  go_loop [3, 4, 8] (fun o _ i => i = .int .i64 0 ∧ o = .int .u64 0) (fun _ _ i => 0)
  case atStart => exact ⟨rfl, rfl⟩
  case round =>
    obtain ⟨rfl, rfl⟩ := hrel
    go_wp2_with fail
    go_ret
    exact ⟨rfl, rfl⟩

set_option maxHeartbeats 400000 in
theorem sip_take (g : Nat) (n : Int) (s : St) (w : World) (hg : w.heap[g]? = some (.cells s.cells 183 (0, 0))) :
    Calls Try.prog 93 #[.pointer (some ⟨g, 0, none⟩), .int .u64 n] w fun e w' => e = .returned (.tuple #[]) ∧ Put g (.cells (s.take n).cells 183) w w' := by
  have hp := Put.refl hg
  have c0 := hp.cellAt 0 (v := .int .u64 s.a) rfl
  have c3 := hp.cellAt 3 (v := .int .u64 s.d) rfl
  have f0 := hp.fz 0
  have f3 := hp.fz 3
  clear hg
  go_enter Try.func93, Try.ntmps93
  go_wp2_with fail
  refine (sip_rounds g 2 { s with d := xo s.d n } _ (by omega) ((hp.setCell 3 _).of rfl).get).mono ?_
  rintro e w1 ⟨rfl, hp1⟩
  have hp2 := ((hp.setCell 3 (.int .u64 (xo s.d n))).of (o' := .cells (St.cells { s with d := xo s.d n }) 183) rfl).trans hp1
  clear hp c0 c3 f0 f3 hp1
  generalize ht : St.rounds { s with d := xo s.d n } 2 = t at hp2
  have HT := Lib.hid ht
  clear ht
  have c0 := hp2.cellAt 0 (v := .int .u64 t.a) rfl
  have f0 := hp2.fz 0
  go_wp2_with fail
  go_end0
  refine ⟨rfl, ?_⟩
  have hf := (hp2.setCell 0 (.int .u64 (xo t.a n))).of (o' := .cells (s.take n).cells 183) (by rw [St.take, HT.out]; rfl)
  exact hf
end Go.Proofs.Ytimdaceidhdaeaa
