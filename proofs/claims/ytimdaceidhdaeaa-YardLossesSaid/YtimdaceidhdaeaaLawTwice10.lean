/- Proved: lemmas that the law's proof stands on (UnitA, HeadD, YardT, YardU). Conditions: as each states. -/
import Derived.Deep.CutBlock
import Derived.Deep.DeepCutAuto
import Derived.Deep.CutRange
import Derived.Laws.Tables
import Derived.Test.YtimdaceidhdaeaaLawTwice07
import Derived.Test.YtimdaceidhdaeaaLawTwice08
import Derived.Test.YtimdaceidhdaeaaLawTwice09

namespace Go.Proofs.Ytimdaceidhdaeaa
open Go.RowKit Go.Proofs
/-- A unit: its block, what stands there, its plane. -/
structure Us where
  ub : Nat
  un : Un
  pl : Pl
def Us.abs (x : Us) : Uu := ⟨x.un.boot, if x.pl.is then some x.un.p else none⟩
structure UnB (W : World) (x : Us) (buf : List No) : Prop where
  u : unitAt W x.ub x.un
  p : planeAt W x.un.pb x.pl
  c : ∃ s r, W.heap[x.un.ch]? = some (.chan 1 (buf.map No.val).toArray false s r false)
  ok1 : x.pl.ok
  ok2 : x.un.p.ok
  rel : x.pl.is = true → x.pl.x = x.un.p
  rel0 : x.pl.is = false → x.pl.x.ver = 0
  ne : x.ub ≠ x.un.pb ∧ x.ub ≠ x.un.ch ∧ x.un.pb ≠ x.un.ch
def Us.mem (x : Us) (k : Nat) : Prop := k = x.ub ∨ k = x.un.pb ∨ k = x.un.ch
def Us.sm (x x' : Us) : Prop := x'.ub = x.ub ∧ x'.un.pb = x.un.pb ∧ x'.un.ch = x.un.ch
theorem Us.sm.mem {x x' : Us} (h : Us.sm x x') : x'.mem = x.mem := by
  funext k
  unfold Us.mem
  rw [h.1, h.2.1, h.2.2]
theorem UnB.kept {W W' : World} {x : Us} {buf : List No} (h : UnB W x buf) (hk : ∀ k, x.mem k → W'.heap[k]? = W.heap[k]?) : UnB W' x buf :=
  ⟨(hk _ (.inl rfl)).trans h.u, (hk _ (.inr (.inl rfl))).trans h.p, by obtain ⟨s, r, hc⟩ := h.c; exact ⟨s, r, (hk _ (.inr (.inr rfl))).trans hc⟩, h.ok1, h.ok2, h.rel, h.rel0, h.ne⟩
theorem UnB.lt {W : World} {x : Us} {buf : List No} (h : UnB W x buf) : ∀ k, x.mem k → k < W.heap.size := by
  obtain ⟨s, r, hc⟩ := h.c
  rintro k (rfl | rfl | rfl)
  · exact heap_lt h.u
  · exact heap_lt h.p
  · exact heap_lt hc
theorem UnB.below {W W' : World} {x : Us} {buf : List No} (h : UnB W x buf) (hB : Below W.heap.size W W') : UnB W' x buf := h.kept (fun k hk => hB.block k (h.lt k hk))
theorem Us.ver (x : Us) (hr : x.pl.is = true → x.pl.x = x.un.p) : x.pl.v = x.abs.ver := by
  unfold Pl.v Us.abs Uu.ver
  cases h : x.pl.is
  · rfl
  · simp [hr h]
theorem UnB.cboot {W : World} {x : Us} {buf : List No} (h : UnB W x buf) : W.cell? ⟨x.ub, 331, none⟩ = some (I x.un.boot) := by
  rw [cell_of_row _ _ _ _ _ _ h.u, List.getElem?_toArray, Un.cells, List.getElem?_cons_succ, List.getElem?_append_right (by rw [Po.cells_len _ h.ok2]; exact Nat.le_refl _), Po.cells_len _ h.ok2]; rfl
theorem UnB.cchan {W : World} {x : Us} {buf : List No} (h : UnB W x buf) : W.cell? ⟨x.ub, 332, none⟩ = some (.chan (some x.un.ch)) := by
  rw [cell_of_row _ _ _ _ _ _ h.u, List.getElem?_toArray, Un.cells, List.getElem?_cons_succ, List.getElem?_append_right (by rw [Po.cells_len _ h.ok2]; omega), Po.cells_len _ h.ok2]; rfl
theorem NoteAt.pool {W : World} {nb : Nat} {n : No} (h : NoteAt W nb n) : W.rangeAt nb 12 n.p.cells := fun j v hv => by
  refine h.cell _ _ ?_
  rw [No.cells, List.getElem?_append_right (by simp; omega), List.getElem?_append_right (by simp [En.cells_len]; omega)]
  rw [show 12 + j - [I n.u, I n.b, I n.v, Value.bool n.whole, Value.bool n.ack].length - n.e.cells.length = j by simp [En.cells_len]; omega]
  exact hv
theorem NoteAt.below {W W' : World} {nb : Nat} {n : No} (h : NoteAt W nb n) (hB : Below W.heap.size W W') : NoteAt W' nb n := ⟨(hB.block _ (heap_lt h.row)).trans h.row⟩
/-- hear, on its way. -/
structure HrE (w : World) (x : Us) (rb nb : Nat) (n : No) (W : World) : Prop where
  un : UnB W x []
  kp : Kp x.mem w W
  res : NoteAt W rb No.zero
  note : NoteAt W nb n
  lt : (∀ k, x.mem k → k < rb) ∧ rb < nb ∧ w.heap.size ≤ rb
theorem HrE.drewN {w : World} {x : Us} {rb nb : Nat} {n : No} {W : World} (h : HrE w x rb nb n W) (m : Nat) : HrE w x rb nb n (W.drewN m) :=
  ⟨h.un.kept (fun _ _ => rfl), ⟨h.kp.os, h.kp.tape, h.kp.output, h.kp.size, h.kp.block⟩, ⟨h.res.row⟩, ⟨h.note.row⟩, h.lt⟩
theorem build_word (w : World) (a b c : Int) : (Instr.build 86 #[(0, I a), (1, I b), (2, I c), (4, .bool true)]).run Try.prog w = .ok (.agg (No.cells ⟨a, b, c, false, true, En.zero, Po.zero⟩).toArray) w := by kernel_rfl
structure SVr (ub : Nat) (boot : Int) (W : World) : Prop where
  boot : W.cell? ⟨ub, 331, none⟩ = some (I boot)
theorem HrE.loaded {w : World} {x : Us} {rb nb : Nat} {n : No} {W W' : World} (h : HrE w x rb nb n W) (p : Po) (hp : p.ok) (v : Value) (hv : v.oneCell' = true) (hk : Kp (fun k => k = x.ub ∨ k = x.un.pb) W W') (hu : unitAt W' x.ub { x.un with p := p })
    (hq : planeAt W' x.un.pb { x.pl with x := p, is := true, w := v }) : HrE w ⟨x.ub, { x.un with p := p }, { x.pl with x := p, is := true, w := v }⟩ rb nb n W' := by
  obtain ⟨s, r, hc⟩ := h.un.c
  have hlt := h.un.lt
  have hl := h.lt
  have hub := hl.1 x.ub (.inl rfl)
  have hpb := hl.1 x.un.pb (.inr (.inl rfl))
  have hne := h.un.ne
  have hkm : Kp x.mem w W' := h.kp.trans (hk.mono (fun k _ e => by rcases e with rfl | rfl; exact .inl rfl; exact .inr (.inl rfl)))
  refine ⟨⟨hu, hq, ⟨s, r, (hk.block _ (heap_lt hc) (fun e => by rcases e with e | e; exact hne.2.1 e.symm; exact hne.2.2 e.symm)).trans hc⟩, ⟨hp, h.un.ok1.near, fun u hu => ?_⟩, hp, fun _ => rfl, fun e => by simp at e, hne⟩, hkm, ?_, ?_, hl⟩
  · rcases List.mem_append.1 hu with hu | hu
    · exact h.un.ok1.one u (List.mem_append_left _ hu)
    · simp at hu; rw [hu]; exact hv
  · exact ⟨(hk.block _ (heap_lt h.res.row) (by omega)).trans h.res.row⟩
  · exact ⟨(hk.block _ (heap_lt h.note.row) (by omega)).trans h.note.row⟩
theorem HrE.stored {w : World} {x : Us} {rb nb : Nat} {n : No} {W : World} (h : HrE w x rb nb n W) (o : Nat) (vs : List Value) : UnB (W.setCells rb o vs) x [] ∧ Kp x.mem w (W.setCells rb o vs) := by
  have hk := Kp.cells (b := rb) o vs W
  have hl := h.lt
  have hs := h.kp.size
  refine ⟨h.un.kept (fun k hm => hk.block k (h.un.lt k hm) (by have := hl.1 k hm; omega)), ?_⟩
  exact ⟨hk.os.trans h.kp.os, hk.tape.trans h.kp.tape, hk.output.trans h.kp.output, Nat.le_trans h.kp.size hk.size, fun j h1 h2 => (hk.block j (by omega) (by omega)).trans (h.kp.block j h1 h2)⟩
theorem Kp.chan (w : World) (c cap : Nat) (buf : Array Value) (cl : Bool) (s r : Nat) (tm : Bool) : Kp (fun k => k = c) w (w.setChan c cap buf cl s r tm) :=
  ⟨rfl, rfl, rfl, by simp [World.setChan], fun k _ hk => by simp only [World.setChan]; rw [Array.getElem?_setIfInBounds_ne (fun e => hk e.symm)]⟩
theorem UnB.setChan {W : World} {x : Us} {buf : List No} (h : UnB W x buf) (buf' : List No) (s r : Nat) : UnB (W.setChan x.un.ch 1 (buf'.map No.val).toArray false s r false) x buf' := by
  have hk := Kp.chan W x.un.ch 1 (buf'.map No.val).toArray false s r false
  have hl := h.lt
  refine ⟨(hk.block _ (hl _ (.inl rfl)) h.ne.2.1).trans h.u, (hk.block _ (hl _ (.inr (.inl rfl))) h.ne.2.2).trans h.p, ⟨s, r, Conc.heap_setChan _ _ _ _ _ _ _ _ (hl _ (.inr (.inr rfl)))⟩, h.ok1, h.ok2, h.rel, h.rel0, h.ne⟩
set_option maxHeartbeats 2000000 in
set_option maxRecDepth 100000 in
theorem unit_hear (x : Us) (n : No) (i : Int) (w : World) (H : UnB w x [n]) (hn : n.p.ok) (hwh : n.whole = true) :
    Calls Try.prog 41 #[.pointer (some ⟨x.ub, 0, none⟩), .int .i64 i] w fun r w' => ∃ x', r = .returned (.tuple #[((x.abs.come n).word i).val, .bool true]) ∧ UnB w' x' [] ∧ Us.sm x x' ∧ x'.ub = x.ub ∧ x'.abs = x.abs.come n ∧
      Kp x.mem w w' := by
  have c0 := H.cchan
  have HH := Bx.mk (And.intro H hn)
  have hlt := H.lt
  clear H hn
  have hz := fun w => zero86 w
  have hR0 : NoteAt (w.alloc (.cells No.zero.cells.toArray 86)) w.heap.size No.zero := ⟨heap_alloc_new w _⟩
  have hH0 : UnB (w.alloc (.cells No.zero.cells.toArray 86)) x [n] := HH.out.1.below ((Below.refl _ _).alloc (Nat.le_refl _) _)
  have hB0 : Below w.heap.size w (w.alloc (.cells No.zero.cells.toArray 86)) := (Below.refl _ _).alloc (Nat.le_refl _) _
  go_enter Try.func41, Try.ntmps41
  have hul := hlt x.ub (.inl rfl)
  go_upto_region 2 with (fail)
  generalize w.alloc (.cells No.zero.cells.toArray 86) = w1 at hR0 hH0 hB0 ⊢
  obtain ⟨s, r, hc⟩ := hH0.c
  refine wp_region_at (show OpsAt _ _ _ [0, 1, 2] _ _ from ?_)
  refine OpsAt.sel_recv (z := No.zero.val) rfl rfl (Go.Proofs.Ytimdaceidhdaeaa.exec_select_recv rfl rfl (zero86 _)) hc (by simp) ?_
  have hgd : ((([n].map No.val).toArray).getD 0 undef) = n.val := rfl
  rw [hgd]
  have hex : (([n].map No.val).toArray.extract 1 ([n].map No.val).toArray.size) = #[] := by simp
  rw [hex]
  have hU2 : UnB (w1.setChan x.un.ch 1 #[] false s (r + 1) false) x [] := hH0.setChan [] s (r + 1)
  have hK2 := Kp.chan w1 x.un.ch 1 #[] false s (r + 1) false
  have hR2 : NoteAt (w1.setChan x.un.ch 1 #[] false s (r + 1) false) w.heap.size No.zero := ⟨(hK2.block _ (heap_lt hR0.row) (by have := hlt x.un.ch (.inr (.inr rfl)); omega)).trans hR0.row⟩
  have hKw : Kp x.mem w (w1.setChan x.un.ch 1 #[] false s (r + 1) false) := (Kp.of_below hB0).trans (hK2.mono (fun k _ e => .inr (.inr e)))
  clear hK2 hc hgd hex hR0 hH0 hB0 c0
  generalize w1.setChan x.un.ch 1 #[] false s (r + 1) false = w2 at hU2 hR2 hKw ⊢
  refine OpsAt.from 1 ?_
  simp only [List.drop_succ_cons, List.drop_zero]
  have hx2 : w.heap.size < w2.heap.size := heap_lt hR2.row
  have hE0 : HrE w x w.heap.size w2.heap.size No.zero (w2.alloc (.cells No.zero.cells.toArray 86)) :=
    ⟨hU2.below ((Below.refl _ _).alloc (Nat.le_refl _) _), hKw.trans (Kp.of_below ((Below.refl _ _).alloc (Nat.le_refl _) _)), hR2.below ((Below.refl _ _).alloc (Nat.le_refl _) _), ⟨heap_alloc_new _ _⟩, hlt, hx2, Nat.le_refl _⟩
  clear hU2 hR2 hKw hlt
  have HN := Bx.mk HH.out.2
  have hE : HrE w x w.heap.size w2.heap.size n ((w2.alloc (.cells No.zero.cells.toArray 86)).setCells w2.heap.size 0 n.cells) := by
    have hk := Kp.cells (b := w2.heap.size) 0 n.cells (w2.alloc (.cells No.zero.cells.toArray 86))
    have hl := hE0.un.lt
    have hlt := hE0.lt
    refine ⟨hE0.un.kept (fun k hm => hk.block k (hl k hm) (by have := hlt.1 k hm; omega)), ?_, ⟨(hk.block _ (heap_lt hE0.res.row) (by omega)).trans hE0.res.row⟩, ⟨row_stored hE0.note.row (by rw [No.cells_len _ HN.out, List.size_toArray, No.cells_len _ Po.zero_ok])⟩, hlt⟩
    have hs := hE0.kp.size
    exact ⟨hk.os.trans hE0.kp.os, hk.tape.trans hE0.kp.tape, hk.output.trans hE0.kp.output, Nat.le_trans hE0.kp.size hk.size, fun j h1 h2 => (hk.block j (by omega) (by omega)).trans (hE0.kp.block j h1 h2)⟩
  have HT := Bx.mk (hE0.note.there Po.zero_ok 0 n.cells.toArray.size (by rw [List.size_toArray, No.cells_len _ HN.out]; decide))
  have HE := Bx.mk hE
  have HI := Bx.mk (size86s n HN.out)
  have HO := Bx.mk (No.one n)
  clear hE hE0
  unfold No.val
  go_upto_block 1 with (first
    | (refine wpList_store_mid rfl 86 _ _ rfl w2.heap.size 0 _ rfl rfl HT.out HI.out HO.out ?_
       simp only [List.toList_toArray]
       generalize (w2.alloc (.cells No.zero.cells.toArray 86)).setCells w2.heap.size 0 n.cells = w3 at HE ⊢
       have HV := Bx.mk (unit_version x.ub x.un x.pl w3 HE.out.un.u HE.out.un.p HE.out.un.ok1))
    | (go_at_call 64; refine HV.out.mono ?_; rintro e w4 ⟨rfl, m1, rfl⟩))
  have hE4 := HE.out.drewN m1
  have hvv : Bx (x.abs.ver = x.pl.v) := ⟨(x.ver HE.out.un.rel).symm⟩
  clear HE HV HT HI HO hx2 hul
  generalize w3.drewN m1 = w4 at hE4 ⊢
  generalize w2.heap.size = nb at hE4 ⊢
  generalize x.pl.v = vv at hvv ⊢
  clear m1 w3 w2
  have HE := Bx.mk hE4
  have HC : Bx (x.abs.come n = if n.b ≠ x.un.boot then x.abs else if vv < n.p.ver then { x.abs with st := .some n.p } else x.abs) := ⟨by
    unfold Uu.come
    rw [hvv.out, hwh]
    simp only [true_and, Bool.true_eq_false, false_and, if_false]
    rfl⟩
  clear hE4
  have c1 := HE.out.note.cell 1 _ rfl
  have c3 := HE.out.note.cell 3 _ rfl
  rw [hwh] at c3
  have c12 : w4.cell? ⟨nb, 12, none⟩ = some (I n.p.ver) := HE.out.note.cell 12 _ rfl
  have cb := HE.out.un.cboot
  have HRp := Bx.mk HE.out.note.pool
  have HI33 := Bx.mk (size33 _ HN.out)
  go_cut [] (fun wx => ∃ x', HrE w x' w.heap.size nb n wx ∧ Us.sm x x' ∧ x'.ub = x.ub ∧ x'.abs = x.abs.come n)
  case first =>
    by_cases b1 : n.b = x.un.boot
    · have e1 : (n.b != x.un.boot) = false := by rw [bne_eq_false_iff_eq]; exact b1
      have B1 := Bx.mk b1
      clear b1
      by_cases b2 : vv < n.p.ver
      · have e2 : decide (vv < n.p.ver) = true := decide_eq_true b2
        have B2 := Bx.mk b2
        clear b2
        go_wp2_with fail
        go_quiet (fail)
        have HE5 := Bx.mk (HE.out.drewN nq)
        clear c1 c3 c12 cb HRp HE
        generalize w4.drewN nq = w5 at HE5 ⊢
        have c3 := HE5.out.note.cell 3 _ rfl
        rw [hwh] at c3
        have c12 : w5.cell? ⟨nb, 12, none⟩ = some (I n.p.ver) := HE5.out.note.cell 12 _ rfl
        have HRp := Bx.mk HE5.out.note.pool
        have HL := Bx.mk (unit_load x.ub x.un x.pl n.p w5 HE5.out.un.u HE5.out.un.ok2 HE5.out.un.p HE5.out.un.ok1 HE5.out.un.ne.1 HN.out)
        unfold Po.v at HL
        go_wp2_with (first
          | (refine wpList_load_mid rfl 33 _ rfl nb 12 rfl n.p.cells _ HRp.out Try.underlying33 rfl HI33.out ?_)
          | (go_at_call 65; refine HL.out.mono ?_; rintro e w6 ⟨rfl, hkL, huL, v, hpL, hoL⟩; have hv1 : v.oneCell' = true := (by rcases hoL.2 with ⟨rfl, _⟩ | ⟨g, cap, _, rfl, _⟩ <;> rfl); have hE6 := Bx.mk (HE5.out.loaded n.p HN.out v hv1 hkL huL hpL); clear hkL huL hpL hoL))
        go_meet
        exact ⟨_, hE6.out, ⟨rfl, rfl, rfl⟩, rfl, by rw [HC.out, if_neg (by rw [B1.out]; simp), if_pos B2.out]; rfl⟩
      · have e2 : decide (vv < n.p.ver) = false := decide_eq_false b2
        have B2 := Bx.mk b2
        clear b2
        go_wp2_with fail
        go_quiet (fail)
        go_wp2_with fail
        go_meet
        exact ⟨x, HE.out.drewN nq, ⟨rfl, rfl, rfl⟩, rfl, by rw [HC.out, if_neg (by rw [B1.out]; simp), if_neg (Int.not_lt.2 B2.out)]⟩
    · have e1 : (n.b != x.un.boot) = true := by rw [bne_iff_ne]; exact b1
      have B1 := Bx.mk b1
      clear b1
      go_wp2_with fail
      go_quiet (fail)
      go_wp2_with fail
      go_meet
      exact ⟨x, HE.out.drewN nq, ⟨rfl, rfl, rfl⟩, rfl, by rw [HC.out, if_pos B1.out]⟩
  case rest =>
    clear HE c1 c3 c12 cb HRp HC hvv HI33
    obtain ⟨x', hE, hm, hxu, hab⟩ := hcut
    have HE := Bx.mk hE
    have HV := Bx.mk (fun W (h : HrE w x' w.heap.size nb n W) => unit_version x'.ub x'.un x'.pl W h.un.u h.un.p h.un.ok1)
    have hv9 := Bx.mk (x'.ver hE.un.rel)
    have HS9 := Bx.mk (fun W (h : HrE w x' w.heap.size nb n W) => (⟨h.un.cboot⟩ : SVr x'.ub x'.un.boot W))
    rw [hxu] at HV HS9
    have HM := Bx.mk (And.intro hm (And.intro hxu hab))
    have hbo : x'.abs.boot = x'.un.boot := rfl
    have HBO := Bx.mk hbo
    clear hE hm hab hbo hxu
    generalize x'.pl.v = v9 at HV hv9
    generalize x'.un.boot = b9 at HS9 HBO
    go_wp2_with fail
    refine wp_region_noPanic ?_
    refine wp_region_held_drew (S := SVr x.ub b9) (by kernel_rfl) (HS9.out _ (HE.out.drewN 1)) ?_
    intro hS
    have HE2 : Bx (HrE w x' w.heap.size nb n wc.drew) := ⟨HE.out.drewN 1⟩
    clear HE
    generalize wc.drew = X at hS HE2 ⊢
    refine wpAnyH_take (i := 0) (v := ?_) rfl (by kernel_rfl) (by kernel_rfl) (by kernel_rfl) (fun _ _ _ h => h) (Or.inl ⟨by rfl, ?_⟩) (by assumption) ?_
    rotate_left
    · intro W1 h1; have d1 := h1.boot; clear h1; go_simp; first | done | with_reducible rfl
    simp only [List.getElem_toArray, List.getElem_cons_succ, List.getElem_cons_zero, Act.put, List.setIfInBounds_toArray, List.set_cons_zero, List.set_cons_succ]
    refine wpAnyH_take (i := 1) (v := ?_) rfl (by kernel_rfl) (by kernel_rfl) (by kernel_rfl) (fun _ _ _ h => h) (Or.inl ⟨by rfl, ?_⟩) (by assumption) ?_
    rotate_left
    · intro W1 h1; have d1 := h1.boot; clear h1; go_simp; first | done | with_reducible rfl
    simp only [List.getElem_toArray, List.getElem_cons_succ, List.getElem_cons_zero, Act.put, List.setIfInBounds_toArray, List.set_cons_zero, List.set_cons_succ]
    refine wpAnyH_take (i := 2) (v := ?_) rfl (by kernel_rfl) (by kernel_rfl) (by kernel_rfl) (fun _ _ _ h => h) (Or.inl ⟨by rfl, ?_⟩) (by assumption) ?_
    rotate_left
    · intro W1 h1; have d1 := h1.boot; clear h1; go_simp; first | done | with_reducible rfl
    simp only [List.getElem_toArray, List.getElem_cons_succ, List.getElem_cons_zero, Act.put, List.setIfInBounds_toArray, List.set_cons_zero, List.set_cons_succ]
    refine wpAnyH_take (i := 3) (v := ?_) rfl (by kernel_rfl) (by kernel_rfl) (by kernel_rfl) (fun _ _ _ h => h) (Or.inl ⟨by rfl, ?_⟩) (by assumption) ?_
    rotate_left
    · intro W1 h1; have d1 := h1.boot; clear h1; go_simp; first | done | with_reducible rfl
    simp only [List.getElem_toArray, List.getElem_cons_succ, List.getElem_cons_zero, Act.put, List.setIfInBounds_toArray, List.set_cons_zero, List.set_cons_succ]
    refine wpAnyH_take (i := 4) (v := ?_) rfl (by kernel_rfl) (by kernel_rfl) (by kernel_rfl) (fun _ _ _ h => h) (Or.inl ⟨by rfl, ?_⟩) (by assumption) ?_
    rotate_left
    · intro W1 h1; have d1 := h1.boot; clear h1; go_simp; first | done | with_reducible rfl
    simp only [List.getElem_toArray, List.getElem_cons_succ, List.getElem_cons_zero, Act.put, List.setIfInBounds_toArray, List.set_cons_zero, List.set_cons_succ]
    refine wpAnyH_take (i := 5) (v := ?_) rfl (by kernel_rfl) (by kernel_rfl) (by kernel_rfl) (fun _ _ _ h => h) (Or.inl ⟨by rfl, ?_⟩) (by assumption) ?_
    rotate_left
    · intro W1 h1; have d1 := h1.boot; clear h1; go_simp; first | done | with_reducible rfl
    simp only [List.getElem_toArray, List.getElem_cons_succ, List.getElem_cons_zero, Act.put, List.setIfInBounds_toArray, List.set_cons_zero, List.set_cons_succ]
    refine wpAnyH_ready (rs := [6]) (by kernel_rfl) (by simp) ?_
    refine AllReadyH.cons rfl (fun K hK => ?_) AllReadyH.nil
    clear hS
    go_simp
    refine (HV.out X HE2.out).mono ?_
    rintro e W ⟨rfl, m, rfl⟩
    have HE3 : Bx (HrE w x' w.heap.size nb n (X.drewN m)) := ⟨HE2.out.drewN m⟩
    refine hK.out _ _ (HS9.out _ HE3.out) (fun hS => ?_)
    clear hK K HE2
    generalize X.drewN m = Y at hS HE3 ⊢
    try simp only [List.getElem_toArray, List.getElem_cons_succ, List.getElem_cons_zero, Act.put, List.setIfInBounds_toArray, List.set_cons_zero, List.set_cons_succ]
    refine wpAnyH_take (i := 7) (v := .agg (No.cells ⟨i, b9, v9, false, true, En.zero, Po.zero⟩).toArray) rfl (by kernel_rfl) (by kernel_rfl) (by kernel_rfl) (fun _ _ _ h => h) (Or.inl ⟨by rfl, fun W1 _ => exec_build _ _ rfl #[(0, I i), (1, I b9), (2, I v9), (4, .bool true)] (by simp [Act.eval, Act.put]) _ (build_word W1 _ _ _)⟩) (by assumption) ?_
    try simp only [List.getElem_toArray, List.getElem_cons_succ, List.getElem_cons_zero, Act.put, List.setIfInBounds_toArray, List.set_cons_zero, List.set_cons_succ]
    refine wpAnyH_ready (rs := [8]) (by kernel_rfl) (by simp) ?_
    refine AllReadyH.cons rfl (fun K hK => ?_) AllReadyH.nil
    rw [if_pos (by rfl)]
    have hNl : (No.mk i b9 v9 false true En.zero Po.zero).cells.length = 342 := No.cells_len _ Po.zero_ok
    refine wp_store_mid _ _ _ rfl w.heap.size 0 (No.cells ⟨i, b9, v9, false, true, En.zero, Po.zero⟩).toArray rfl rfl (HE3.out.res.there Po.zero_ok _ _ (by rw [List.size_toArray, hNl]; decide)) (size86s _ Po.zero_ok) (No.one _) ?_
    simp only [List.toList_toArray]
    have hU := HE3.out.stored 0 (No.cells ⟨i, b9, v9, false, true, En.zero, Po.zero⟩)
    have hNt : NoteAt (Y.setCells w.heap.size 0 (No.cells ⟨i, b9, v9, false, true, En.zero, Po.zero⟩)) w.heap.size ⟨i, b9, v9, false, true, En.zero, Po.zero⟩ := ⟨row_stored HE3.out.res.row (by rw [hNl, List.size_toArray, No.cells_len _ Po.zero_ok])⟩
    have hb2 := hU.1.cboot
    rw [HM.out.2.1, show x'.un.boot = b9 from HBO.out] at hb2
    refine hK.out _ _ ⟨hb2⟩ (fun hS => ?_)
    clear hK K hb2
    generalize Y.setCells w.heap.size 0 (No.cells ⟨i, b9, v9, false, true, En.zero, Po.zero⟩) = Z at hS hU hNt ⊢
    refine wpAnyH_take (i := 9) (v := ?_) rfl (by kernel_rfl) (by kernel_rfl) (by kernel_rfl) (fun _ _ _ h => h) (Or.inl ⟨by rfl, ?_⟩) (by assumption) ?_
    rotate_left
    · intro W1 h1; clear h1; go_simp; first | done | with_reducible rfl
    simp only [List.getElem_toArray, List.getElem_cons_succ, List.getElem_cons_zero, Act.put, List.setIfInBounds_toArray, List.set_cons_zero, List.set_cons_succ]
    refine wpAnyH_done (by kernel_rfl) ?_ _
    refine NoPanic.normal ?_
    clear hS
    have HU := Bx.mk hU
    have HNt := Bx.mk hNt.range
    clear hU hNt
    go_wp2_with fail
    have hw : (x.abs.come n).word i = ⟨i, b9, v9, false, true, En.zero, Po.zero⟩ := by
      rw [← HM.out.2.2]
      unfold Uu.word
      rw [HBO.out, ← hv9.out]
    exact bodyPost_ret (results_cell_tmp Try.results41 _ _ w.heap.size _ _ (.bool true) rfl rfl HNt.out Try.underlying86 rfl (size86 _ Po.zero_ok)) rfl ⟨x', by rw [hw]; rfl, HU.out.1, HM.out.1, HM.out.2.1, HM.out.2.2, by rw [← HM.out.1.mem]; exact HU.out.2⟩
end Go.Proofs.Ytimdaceidhdaeaa

namespace Go.Proofs.Ytimdaceidhdaeaa
open Go.RowKit Go.Proofs
theorem fold_spl2 (l : List Value) (off : Nat) : ∀ (k : Nat) (C : Array Value), (l.zipIdx k).foldl (fun cs (x : Value × Nat) => cs.setIfInBounds (off + x.2) x.1) C = spl C (off + k) l := by
  induction l with
  | nil => intro k C; rfl
  | cons v r ih => intro k C; simp only [List.zipIdx_cons, List.foldl_cons]; rw [ih]; rfl
theorem fill_cons (place : Nat → Option (Nat × Nat)) (C : Array Value) (i : Nat) (v : Value) (rest : List (Nat × Value)) (off size : Nat) (hp : place i = some (off, size)) (hs : v.cells.size = size) (hb : off + size ≤ C.size) :
    Instr.fill place C ((i, v) :: rest) = Instr.fill place (spl C off v.cells.toList) rest := by
  have h2 := fold_spl2 v.cells.toList off 0 C
  have h3 : v.cells.zipIdx = (v.cells.toList.zipIdx 0).toArray := by
    apply Array.ext'
    simp [Array.toList_zipIdx]
  have hno : ¬ ((v.cells.size ≠ size || decide (off + v.cells.size > C.size)) = true) := by simp; omega
  simp only [Instr.fill, hp]
  rw [if_neg hno, h3, List.foldl_toArray']
  · rw [Nat.add_zero] at h2
    rw [h2]
  · simp
theorem built_head (parts : List (Nat × Value)) : Try.prog.built 120 parts = Instr.fill (fun i => #[(0, 330), (330, 1), (331, 1), (332, 7), (339, 1)][i]?) (Po.zero.cells ++ (Value.chan none :: Value.map none :: (En.zero.cells ++ [Value.bool false]))).toArray parts := by kernel_rfl
theorem build_head (w : World) (p : Po) (hp : p.ok) (cb mb : Nat) :
    (Instr.build 120 #[(0, .agg p.cells.toArray), (1, .chan (some cb)), (2, .map (some mb))]).run Try.prog w = .ok (.agg ((⟨p, [], [], En.zero, false⟩ : He).cells mb cb).toArray) w := by
  refine run_build w _ _ _ ?_
  have hl := Po.cells_len _ hp
  have hl0 := Po.cells_len _ Po.zero_ok
  rw [built_head]
  rw [fill_cons _ _ 0 _ _ 0 330 rfl (by show p.cells.toArray.size = 330; simp [hl]) (by simp [hl0, En.cells_len])]
  rw [show (Value.agg p.cells.toArray).cells.toList = p.cells from rfl, spl_front _ _ _ (by rw [hl, hl0])]
  rw [fill_cons _ _ 1 _ _ 330 1 rfl rfl (by simp [hl, En.cells_len]), fill_cons _ _ 2 _ _ 331 1 rfl rfl (by simp [spl_size, hl, En.cells_len])]
  simp only [Instr.fill]
  congr 1
  show (spl (spl _ 330 [.chan (some cb)]) 331 [.map (some mb)]) = _
  simp only [spl, List.setIfInBounds_toArray, He.cells]
  rw [List.set_append_right _ _ (by omega), hl, List.set_append_right _ _ (by omega), hl]
  rfl
theorem bytes53 : ∃ i, Try.prog.info? 53 = some i ∧ i.bytes = 56 := by
  have h : (Try.prog.info? 53).map (·.bytes) = some 56 := by kernel_rfl
  obtain ⟨i, hi, hb⟩ := Option.map_eq_some_iff.1 h
  exact ⟨i, hi, hb⟩
theorem mk_wait (w : World) : (Instr.makeChan 117 (.int .i64 200)).run Try.prog w = .ok (.chan (some w.heap.size)) (w.alloc (.chan 200 #[] false 0 0 false)) := by
  obtain ⟨i, hi, hb⟩ := bytes53
  simpa using Conc.run_makeChan (P := Try.prog) (w := w) Try.underlying117 hi .i64 200 (by omega) (by rw [hb]; omega)
theorem mk_map (w : World) (t : TypeId) : (Instr.makeMap t none).run Try.prog w = .ok (.map (some w.heap.size)) (w.alloc (.map #[] 0)) := by
  simp [Instr.makeMap, newObj, Sem.run]
structure NwE (w : World) (hb mb cb : Nat) (h : He) (W : World) : Prop where
  head : HeadAt W hb mb cb h
  below : Below w.heap.size w W
  ge : w.heap.size ≤ hb ∧ w.heap.size ≤ mb ∧ w.heap.size ≤ cb
  ne : hb ≠ mb ∧ hb ≠ cb ∧ cb ≠ mb
theorem run_new_word (W : World) (m k : Nat) (hm : mapAt W m (List.replicate k (0, -1))) :
    (Instr.mapUpdate 118 (.map (some m)) (I k) (.agg #[I 0, I (-1)])).run Try.prog W = .ok () (putObj W m (mapObj (List.replicate (k + 1) (0, -1)))) := by
  have := run_mapUpdate_new (h := (0, -1)) Try.underlying118 Try.underlying3 hm
  rw [List.length_replicate, ← List.replicate_succ'] at this
  exact this
theorem NwE.put {w W : World} {hb mb cb : Nat} {h : He} (e : NwE w hb mb cb h W) (hs' : List (Int × Int)) : NwE w hb mb cb { h with hs := hs' } (putObj W mb (mapObj hs')) := by
  obtain ⟨s, r, hc⟩ := e.head.chan
  have hne := e.ne
  have hge := e.ge
  refine ⟨⟨(putObj_other hne.1).trans e.head.row, putObj_get e.head.lts.2.1, ⟨s, r, (putObj_other hne.2.2).trans hc⟩, e.head.ok⟩, ?_, hge, hne⟩
  exact e.below.trans ⟨rfl, rfl, rfl, by rw [putObj_size]; exact Nat.le_refl _, fun k hk => putObj_other (by omega)⟩
structure SNw (bx : Nat) (p : Po) (W : World) : Prop where
  row : W.heap[bx]? = some (.cells p.cells.toArray 33 (0, 0))
set_option maxHeartbeats 2000000 in
set_option maxRecDepth 100000 in
theorem head_New (p : Po) (u : Nat) (w : World) (hp : p.ok) (h1 : 1 ≤ u) (h2 : u ≤ 16) :
    Calls Try.prog 32 #[p.v, .int .i64 u] w fun r w' => ∃ hb mb cb, r = .returned (.tuple #[.pointer (some ⟨hb, 0, none⟩), I 0]) ∧ HeadAt w' hb mb cb ⟨p, [], List.replicate u (0, -1), En.zero, false⟩ ∧
      Below w.heap.size w w' ∧ (w.heap.size ≤ hb ∧ w.heap.size ≤ mb ∧ w.heap.size ≤ cb) ∧ (hb ≠ mb ∧ hb ≠ cb ∧ cb ≠ mb) := by
  have d1 : decide ((u : Int) < 1) = false := decide_eq_false (by omega)
  have d2 : decide (16 < (u : Int)) = false := decide_eq_false (by omega)
  have hR : SNw w.heap.size p (w.alloc (.cells p.cells.toArray 33)) := ⟨heap_alloc_new w _⟩
  have hB : Below w.heap.size w (w.alloc (.cells p.cells.toArray 33)) := (Below.refl _ _).alloc (Nat.le_refl _) _
  have HI := Bx.mk (And.intro hp (size33 p hp))
  clear hp
  unfold Po.v
  go_enter Try.func32, Try.ntmps32
  go_wp2_with fail
  generalize w.alloc (.cells p.cells.toArray 33) = w1 at hR hB ⊢
  refine wp_region_noPanic ?_
  refine wp_region_held_drew (S := SNw w.heap.size p) (by kernel_rfl) ⟨hR.row⟩ ?_
  intro hS
  have hB2 : Below w.heap.size w w1.drew := hB.drew
  clear hR hB
  generalize w1.drew = X at hS hB2 ⊢
  have hX : w.heap.size < X.heap.size := heap_lt hS.row
  refine wpAnyH_take (i := 0) (v := .agg p.cells.toArray) rfl (by kernel_rfl) (by kernel_rfl) (by kernel_rfl) (fun _ _ _ h => h) (yieldsIf_load_mid (by rfl) 33 _ rfl w.heap.size 0 rfl p.cells _ (fun W h => pool_range h.row) Try.underlying33 rfl HI.out.2) (by assumption) ?_
  simp only [List.getElem_toArray, List.getElem_cons_succ, List.getElem_cons_zero, Act.put, List.setIfInBounds_toArray, List.set_cons_zero, List.set_cons_succ]
  have hmc := mk_wait
  have hmm := fun w => mk_map w 118
  refine wpAnyH_ready (rs := [1, 2]) (by kernel_rfl) (by simp) ?_
  refine AllReadyH.cons rfl (fun K hK => ?_) (AllReadyH.cons rfl (fun K hK => ?_) AllReadyH.nil)
  · skip
    go_simp
    have hS1 : SNw w.heap.size p (X.alloc (.chan 200 #[] false 0 0 false)) := ⟨heap_old_at hX hS.row⟩
    have hS2 : SNw w.heap.size p ((X.alloc (.chan 200 #[] false 0 0 false)).alloc (.map #[] 0)) := ⟨heap_old_at (by simp; omega) hS1.row⟩
    refine hK.out _ _ hS1 (fun _ => ?_)
    clear hK K
    refine wpAnyH_ready (rs := [2]) (by kernel_rfl) (by simp) ?_
    refine AllReadyH.cons rfl (fun K hK => ?_) AllReadyH.nil
    go_simp
    refine hK.out _ _ hS2 (fun _ => ?_)
    clear hK K
    refine wpAnyH_take (i := 3) (v := .agg ((⟨p, [], [], En.zero, false⟩ : He).cells (X.heap.size + 1) X.heap.size).toArray) rfl (by kernel_rfl) (by kernel_rfl) (by kernel_rfl) (fun _ _ _ h => h) (Or.inl ⟨by rfl, fun W1 _ => exec_build _ _ rfl #[(0, .agg p.cells.toArray), (1, .chan (some X.heap.size)), (2, .map (some (X.heap.size + 1)))] (by simp [Act.eval]) _ (build_head W1 p HI.out.1 _ _)⟩) (by assumption) ?_
    try simp only [List.getElem_toArray, List.getElem_cons_succ, List.getElem_cons_zero, Act.put, List.setIfInBounds_toArray, List.set_cons_zero, List.set_cons_succ]
    refine wpAnyH_ready (rs := [4]) (by kernel_rfl) (by simp) ?_
    refine AllReadyH.cons rfl (fun K hK => ?_) AllReadyH.nil
    go_simp
    have hE : NwE w (X.heap.size + 1 + 1) (X.heap.size + 1) X.heap.size ⟨p, [], List.replicate 0 (0, -1), En.zero, false⟩ (((X.alloc (.chan 200 #[] false 0 0 false)).alloc (.map #[] 0)).alloc (.cells ((⟨p, [], [], En.zero, false⟩ : He).cells (X.heap.size + 1) X.heap.size).toArray 120)) := by
      have a1 : (((X.alloc (.chan 200 #[] false 0 0 false)).alloc (.map #[] 0)).alloc (.cells ((⟨p, [], [], En.zero, false⟩ : He).cells (X.heap.size + 1) X.heap.size).toArray 120)).heap[X.heap.size]? = some (.chan 200 #[] false 0 0 false) := heap_old_at (by simp; omega) (heap_old_at (by simp) (heap_new_at rfl))
      have a2 : (((X.alloc (.chan 200 #[] false 0 0 false)).alloc (.map #[] 0)).alloc (.cells ((⟨p, [], [], En.zero, false⟩ : He).cells (X.heap.size + 1) X.heap.size).toArray 120)).heap[X.heap.size + 1]? = some (.map #[] 0) := heap_old_at (by simp) (heap_new_at (by simp))
      have a3 : (((X.alloc (.chan 200 #[] false 0 0 false)).alloc (.map #[] 0)).alloc (.cells ((⟨p, [], [], En.zero, false⟩ : He).cells (X.heap.size + 1) X.heap.size).toArray 120)).heap[X.heap.size + 1 + 1]? = some (.cells ((⟨p, [], [], En.zero, false⟩ : He).cells (X.heap.size + 1) X.heap.size).toArray 120 (0, 0)) := heap_new_at (by simp)
      have hb2 := hB2.size
      refine ⟨⟨a3, ?_, ⟨0, 0, ?_⟩, HI.out.1⟩, ((hB2.alloc hB2.size _).alloc (by simp; omega) _).alloc (by simp; omega) _, ⟨by omega, by omega, by omega⟩, ⟨by omega, by omega, by omega⟩⟩
      · first | exact a1 | exact a2
      · first | exact a1 | exact a2
    have hS3 : SNw w.heap.size p (((X.alloc (.chan 200 #[] false 0 0 false)).alloc (.map #[] 0)).alloc (.cells ((⟨p, [], [], En.zero, false⟩ : He).cells (X.heap.size + 1) X.heap.size).toArray 120)) := ⟨heap_old_at (by simp; omega) hS2.row⟩
    refine hK.out _ _ hS3 (fun hS9 => ?_)
    clear hK K hmc hmm hS1 hS2 hS hS3
    refine wpAnyH_take (i := 5) (v := ?_) rfl (by kernel_rfl) (by kernel_rfl) (by kernel_rfl) (fun _ _ _ h => h) (Or.inl ⟨by rfl, ?_⟩) (by assumption) ?_
    rotate_left
    · intro W1 h1; clear h1; go_simp; first | done | with_reducible rfl
    simp only [List.getElem_toArray, List.getElem_cons_succ, List.getElem_cons_zero, Act.put, List.setIfInBounds_toArray, List.set_cons_zero, List.set_cons_succ]
    refine wpAnyH_done (by kernel_rfl) ?_ _
    refine NoPanic.normal ?_
    clear hS9
    generalize ((X.alloc (.chan 200 #[] false 0 0 false)).alloc (.map #[] 0)).alloc (.cells ((⟨p, [], [], En.zero, false⟩ : He).cells (X.heap.size + 1) X.heap.size).toArray 120) = V at hE ⊢
    generalize ((⟨p, [], [], En.zero, false⟩ : He).cells (X.heap.size + 1) X.heap.size).toArray = CC
    generalize X.heap.size + 1 + 1 = hb at hE ⊢
    generalize gmb : X.heap.size + 1 = mb at hE ⊢
    generalize gcb : X.heap.size = cb at hE ⊢
    clear gmb gcb hX hB2
    go_wp2_with fail
    go_loopg [20] u (fun n i wr => ∃ k : Nat, n + k = u ∧ i = .int .i64 k ∧ NwE w hb mb cb ⟨p, [], List.replicate k (0, -1), En.zero, false⟩ wr)
    case atStart => exact ⟨0, rfl, rfl, hE⟩
    case round =>
      obtain ⟨k, hk, rfl, hE2⟩ := hrel
      clear hE
      by_cases hlt : k < u
      · have c0 := hE2.head.c331
        have HM := Bx.mk (run_new_word _ _ k hE2.head.map)
        have HE := Bx.mk hE2
        clear hE2
        go_wp2_with (refine wpList_mapUpdate_run rfl _ _ _ _ rfl _ _ _ rfl rfl rfl _ HM.out ?_)
        go_roundg (u - (k + 1))
        case measure => omega
        case rel => exact ⟨k + 1, by omega, by go_num, HE.out.put _⟩
      · have hku : k = u := by omega
        have HK := Bx.mk hku
        clear hku
        go_wp2_with fail
        exact bodyPost_ret (results_tmp2 rfl _ _ _) rfl ⟨hb, mb, cb, rfl, by rw [← HK.out]; exact hE2.head, hE2.below, hE2.ge, hE2.ne⟩
  · skip
    go_simp
    have hS1 : SNw w.heap.size p (X.alloc (.map #[] 0)) := ⟨heap_old_at hX hS.row⟩
    have hS2 : SNw w.heap.size p ((X.alloc (.map #[] 0)).alloc (.chan 200 #[] false 0 0 false)) := ⟨heap_old_at (by simp; omega) hS1.row⟩
    refine hK.out _ _ hS1 (fun _ => ?_)
    clear hK K
    refine wpAnyH_ready (rs := [1]) (by kernel_rfl) (by simp) ?_
    refine AllReadyH.cons rfl (fun K hK => ?_) AllReadyH.nil
    go_simp
    refine hK.out _ _ hS2 (fun _ => ?_)
    clear hK K
    refine wpAnyH_take (i := 3) (v := .agg ((⟨p, [], [], En.zero, false⟩ : He).cells X.heap.size (X.heap.size + 1)).toArray) rfl (by kernel_rfl) (by kernel_rfl) (by kernel_rfl) (fun _ _ _ h => h) (Or.inl ⟨by rfl, fun W1 _ => exec_build _ _ rfl #[(0, .agg p.cells.toArray), (1, .chan (some (X.heap.size + 1))), (2, .map (some X.heap.size))] (by simp [Act.eval]) _ (build_head W1 p HI.out.1 _ _)⟩) (by assumption) ?_
    try simp only [List.getElem_toArray, List.getElem_cons_succ, List.getElem_cons_zero, Act.put, List.setIfInBounds_toArray, List.set_cons_zero, List.set_cons_succ]
    refine wpAnyH_ready (rs := [4]) (by kernel_rfl) (by simp) ?_
    refine AllReadyH.cons rfl (fun K hK => ?_) AllReadyH.nil
    go_simp
    have hE : NwE w (X.heap.size + 1 + 1) X.heap.size (X.heap.size + 1) ⟨p, [], List.replicate 0 (0, -1), En.zero, false⟩ (((X.alloc (.map #[] 0)).alloc (.chan 200 #[] false 0 0 false)).alloc (.cells ((⟨p, [], [], En.zero, false⟩ : He).cells X.heap.size (X.heap.size + 1)).toArray 120)) := by
      have a1 : (((X.alloc (.map #[] 0)).alloc (.chan 200 #[] false 0 0 false)).alloc (.cells ((⟨p, [], [], En.zero, false⟩ : He).cells X.heap.size (X.heap.size + 1)).toArray 120)).heap[X.heap.size]? = some (.map #[] 0) := heap_old_at (by simp; omega) (heap_old_at (by simp) (heap_new_at rfl))
      have a2 : (((X.alloc (.map #[] 0)).alloc (.chan 200 #[] false 0 0 false)).alloc (.cells ((⟨p, [], [], En.zero, false⟩ : He).cells X.heap.size (X.heap.size + 1)).toArray 120)).heap[X.heap.size + 1]? = some (.chan 200 #[] false 0 0 false) := heap_old_at (by simp) (heap_new_at (by simp))
      have a3 : (((X.alloc (.map #[] 0)).alloc (.chan 200 #[] false 0 0 false)).alloc (.cells ((⟨p, [], [], En.zero, false⟩ : He).cells X.heap.size (X.heap.size + 1)).toArray 120)).heap[X.heap.size + 1 + 1]? = some (.cells ((⟨p, [], [], En.zero, false⟩ : He).cells X.heap.size (X.heap.size + 1)).toArray 120 (0, 0)) := heap_new_at (by simp)
      have hb2 := hB2.size
      refine ⟨⟨a3, ?_, ⟨0, 0, ?_⟩, HI.out.1⟩, ((hB2.alloc hB2.size _).alloc (by simp; omega) _).alloc (by simp; omega) _, ⟨by omega, by omega, by omega⟩, ⟨by omega, by omega, by omega⟩⟩
      · first | exact a1 | exact a2
      · first | exact a1 | exact a2
    have hS3 : SNw w.heap.size p (((X.alloc (.map #[] 0)).alloc (.chan 200 #[] false 0 0 false)).alloc (.cells ((⟨p, [], [], En.zero, false⟩ : He).cells X.heap.size (X.heap.size + 1)).toArray 120)) := ⟨heap_old_at (by simp; omega) hS2.row⟩
    refine hK.out _ _ hS3 (fun hS9 => ?_)
    clear hK K hmc hmm hS1 hS2 hS hS3
    refine wpAnyH_take (i := 5) (v := ?_) rfl (by kernel_rfl) (by kernel_rfl) (by kernel_rfl) (fun _ _ _ h => h) (Or.inl ⟨by rfl, ?_⟩) (by assumption) ?_
    rotate_left
    · intro W1 h1; clear h1; go_simp; first | done | with_reducible rfl
    simp only [List.getElem_toArray, List.getElem_cons_succ, List.getElem_cons_zero, Act.put, List.setIfInBounds_toArray, List.set_cons_zero, List.set_cons_succ]
    refine wpAnyH_done (by kernel_rfl) ?_ _
    refine NoPanic.normal ?_
    clear hS9
    generalize ((X.alloc (.map #[] 0)).alloc (.chan 200 #[] false 0 0 false)).alloc (.cells ((⟨p, [], [], En.zero, false⟩ : He).cells X.heap.size (X.heap.size + 1)).toArray 120) = V at hE ⊢
    generalize ((⟨p, [], [], En.zero, false⟩ : He).cells X.heap.size (X.heap.size + 1)).toArray = CC
    generalize X.heap.size + 1 + 1 = hb at hE ⊢
    generalize gmb : X.heap.size + 1 = cb at hE ⊢
    generalize gcb : X.heap.size = mb at hE ⊢
    clear gmb gcb hX hB2
    go_wp2_with fail
    go_loopg [20] u (fun n i wr => ∃ k : Nat, n + k = u ∧ i = .int .i64 k ∧ NwE w hb mb cb ⟨p, [], List.replicate k (0, -1), En.zero, false⟩ wr)
    case atStart => exact ⟨0, rfl, rfl, hE⟩
    case round =>
      obtain ⟨k, hk, rfl, hE2⟩ := hrel
      clear hE
      by_cases hlt : k < u
      · have c0 := hE2.head.c331
        have HM := Bx.mk (run_new_word _ _ k hE2.head.map)
        have HE := Bx.mk hE2
        clear hE2
        go_wp2_with (refine wpList_mapUpdate_run rfl _ _ _ _ rfl _ _ _ rfl rfl rfl _ HM.out ?_)
        go_roundg (u - (k + 1))
        case measure => omega
        case rel => exact ⟨k + 1, by omega, by go_num, HE.out.put _⟩
      · have hku : k = u := by omega
        have HK := Bx.mk hku
        clear hku
        go_wp2_with fail
        exact bodyPost_ret (results_tmp2 rfl _ _ _) rfl ⟨hb, mb, cb, rfl, by rw [← HK.out]; exact hE2.head, hE2.below, hE2.ge, hE2.ne⟩
end Go.Proofs.Ytimdaceidhdaeaa

namespace Go.Proofs.Ytimdaceidhdaeaa
open Go.RowKit Go.Proofs
/-- A yard, with the blocks in which it lies; 'role' tells them apart. -/
structure YS where
  yb : Nat
  hb : Nat
  mb : Nat
  cb : Nat
  h : He
  us : List Us
  uv : Value
  wv : Value
  way : List No
  role : Nat → Nat
def YS.abs (y : YS) : Ya := ⟨y.h, y.us.map Us.abs, y.way⟩
def YS.mem (y : YS) (k : Nat) : Prop := k = y.yb ∨ k = y.hb ∨ k = y.mb ∨ k = y.cb ∨ y.uv.ownBlock = some k ∨ y.wv.ownBlock = some k ∨ ∃ x ∈ y.us, x.mem k
def ycells (hb : Nat) (uv wv : Value) : Array Value := #[.pointer (some ⟨hb, 0, none⟩), uv, wv]
structure YAt (W : World) (y : YS) : Prop where
  row : W.heap[y.yb]? = some (.cells (ycells y.hb y.uv y.wv) 76 (0, 0))
  head : HeadAt W y.hb y.mb y.cb y.h
  un : ∀ x ∈ y.us, UnB W x []
  ur : W.ownsRow 0 78 1 y.uv y.us.length ((y.us.map Us.ub).map uptr)
  wr : RowOf W 86 342 y.wv y.way.length (notes y.way)
  wok : ∀ n ∈ y.way, n.p.ok
  r0 : y.role y.yb = 0
  r1 : y.role y.hb = 1
  r2 : y.role y.mb = 2
  r3 : y.role y.cb = 3
  r4 : ∀ k, y.uv.ownBlock = some k → y.role k = 4
  r5 : ∀ k, y.wv.ownBlock = some k → y.role k = 5
  r6 : ∀ i x, y.us[i]? = some x → y.role x.ub = 6 + 3 * i ∧ y.role x.un.pb = 7 + 3 * i ∧ y.role x.un.ch = 8 + 3 * i
theorem ownsRow_lt {w : World} {B n s : Nat} {e : TypeId} {v : Value} {xs : List Value} (h : w.ownsRow B e s v n xs) : ∀ k, v.ownBlock = some k → k < w.heap.size := by
  intro k hk
  rcases h.2 with ⟨rfl, _⟩ | ⟨g, cap, cur, rfl, _, hg, _⟩
  · simp [Value.ownBlock] at hk
  · simp only [Value.ownBlock] at hk
    injection hk with hk
    have hk : g = k := hk
    subst hk
    exact heap_lt hg
theorem ownsRow_kept {w w' : World} {B n s : Nat} {e : TypeId} {v : Value} {xs : List Value} (h : w.ownsRow B e s v n xs) (hk : ∀ k, v.ownBlock = some k → w'.heap[k]? = w.heap[k]?) : w'.ownsRow B e s v n xs := by
  refine ⟨h.1, ?_⟩
  rcases h.2 with hn | ⟨g, cap, cur, rfl, hb, hg, rest⟩
  · exact .inl hn
  · exact .inr ⟨g, cap, cur, rfl, hb, (hk g rfl).trans hg, rest⟩
theorem YAt.lt {W : World} {y : YS} (h : YAt W y) : ∀ k, y.mem k → k < W.heap.size := by
  have hl := h.head.lts
  rintro k (rfl | rfl | rfl | rfl | hk | hk | ⟨x, hx, hk⟩)
  · exact heap_lt h.row
  · exact hl.1
  · exact hl.2.1
  · exact hl.2.2
  · exact ownsRow_lt h.ur k hk
  · exact h.wr.lt k hk
  · exact (h.un x hx).lt k hk
theorem YAt.kept {W W' : World} {y : YS} (h : YAt W y) (hk : ∀ k, y.mem k → W'.heap[k]? = W.heap[k]?) : YAt W' y where
  row := (hk _ (.inl rfl)).trans h.row
  head := h.head.kept (hk _ (.inr (.inl rfl))) (hk _ (.inr (.inr (.inl rfl)))) (hk _ (.inr (.inr (.inr (.inl rfl)))))
  un := fun x hx => (h.un x hx).kept (fun k hm => hk k (.inr (.inr (.inr (.inr (.inr (.inr ⟨x, hx, hm⟩)))))))
  ur := ownsRow_kept h.ur (fun k hm => hk k (.inr (.inr (.inr (.inr (.inl hm))))))
  wr := h.wr.kept (fun k hm => hk k (.inr (.inr (.inr (.inr (.inr (.inl hm)))))))
  wok := h.wok
  r0 := h.r0
  r1 := h.r1
  r2 := h.r2
  r3 := h.r3
  r4 := h.r4
  r5 := h.r5
  r6 := h.r6
/-- The role of each block of the yard's: which numbers. -/
theorem YAt.roles {W : World} {y : YS} (h : YAt W y) {k : Nat} (hm : y.mem k) : (k = y.yb ∧ y.role k = 0) ∨ (k = y.hb ∧ y.role k = 1) ∨ (k = y.mb ∧ y.role k = 2) ∨ (k = y.cb ∧ y.role k = 3) ∨ (y.uv.ownBlock = some k ∧ y.role k = 4) ∨ (y.wv.ownBlock = some k ∧ y.role k = 5) ∨
    ∃ i x, y.us[i]? = some x ∧ ((k = x.ub ∧ y.role k = 6 + 3 * i) ∨ (k = x.un.pb ∧ y.role k = 7 + 3 * i) ∨ (k = x.un.ch ∧ y.role k = 8 + 3 * i)) := by
  rcases hm with rfl | rfl | rfl | rfl | hk | hk | ⟨x, hx, hk⟩
  · exact .inl ⟨rfl, h.r0⟩
  · exact .inr (.inl ⟨rfl, h.r1⟩)
  · exact .inr (.inr (.inl ⟨rfl, h.r2⟩))
  · exact .inr (.inr (.inr (.inl ⟨rfl, h.r3⟩)))
  · exact .inr (.inr (.inr (.inr (.inl ⟨hk, h.r4 k hk⟩))))
  · exact .inr (.inr (.inr (.inr (.inr (.inl ⟨hk, h.r5 k hk⟩)))))
  · obtain ⟨i, hi⟩ := List.mem_iff_getElem?.1 hx
    have h6 := h.r6 i x hi
    refine .inr (.inr (.inr (.inr (.inr (.inr ⟨i, x, hi, ?_⟩)))))
    rcases hk with rfl | rfl | rfl
    · exact .inl ⟨rfl, h6.1⟩
    · exact .inr (.inl ⟨rfl, h6.2.1⟩)
    · exact .inr (.inr ⟨rfl, h6.2.2⟩)
/-- The row of notes is another one. -/
theorem YAt.turnWay {W W' : World} {y : YS} (h : YAt W y) (wv' : Value) (way' : List No) (hk : Kp (fun k => k = y.yb ∨ y.wv.ownBlock = some k) W W') (hrow : W'.heap[y.yb]? = some (.cells ((ycells y.hb y.uv y.wv).setIfInBounds 2 wv') 76 (0, 0)))
    (hw : RowOf W' 86 342 wv' way'.length (notes way')) (hok : ∀ n ∈ way', n.p.ok) (hown : ∀ k, wv'.ownBlock = some k → y.wv.ownBlock = some k ∨ W.heap.size ≤ k) :
    YAt W' { y with wv := wv', way := way', role := fun k => if W.heap.size ≤ k then 5 else y.role k } ∧ (∀ k, ({ y with wv := wv', way := way', role := fun k => if W.heap.size ≤ k then 5 else y.role k } : YS).mem k → y.mem k ∨ W.heap.size ≤ k) := by
  have hlt := h.lt
  have hro : ∀ k, k < W.heap.size → (if W.heap.size ≤ k then 5 else y.role k) = y.role k := fun k hk => if_neg (by omega)
  have hkeep : ∀ k, y.mem k → y.role k ≠ 0 → y.role k ≠ 5 → W'.heap[k]? = W.heap[k]? := fun k hm h0 h5 => hk.block k (hlt k hm) (fun e => by
    rcases e with rfl | e
    · exact h0 h.r0
    · exact h5 (h.r5 k e))
  have m1 : y.mem y.hb := .inr (.inl rfl)
  have m2 : y.mem y.mb := .inr (.inr (.inl rfl))
  have m3 : y.mem y.cb := .inr (.inr (.inr (.inl rfl)))
  have mu : ∀ (i : Nat) (x : Us) (k : Nat), y.us[i]? = some x → x.mem k → y.mem k := fun i x k hi hm => .inr (.inr (.inr (.inr (.inr (.inr ⟨x, List.mem_iff_getElem?.2 ⟨i, hi⟩, hm⟩)))))
  refine ⟨?_, ?_⟩
  · refine { row := ?_, head := ?_, un := ?_, ur := ?_, wr := hw, wok := hok, r0 := ?_, r1 := ?_, r2 := ?_, r3 := ?_, r4 := ?_, r5 := ?_, r6 := ?_ }
    · exact hrow
    · exact h.head.kept (hkeep _ m1 (by rw [h.r1]; decide) (by rw [h.r1]; decide)) (hkeep _ m2 (by rw [h.r2]; decide) (by rw [h.r2]; decide)) (hkeep _ m3 (by rw [h.r3]; decide) (by rw [h.r3]; decide))
    · intro x hx
      obtain ⟨i, hi⟩ := List.mem_iff_getElem?.1 hx
      have h6 := h.r6 i x hi
      refine (h.un x hx).kept (fun k hm => hkeep k (mu i x k hi hm) ?_ ?_)
      · rcases hm with rfl | rfl | rfl <;> omega
      · rcases hm with rfl | rfl | rfl <;> omega
    · exact ownsRow_kept h.ur (fun k hm => hkeep k (.inr (.inr (.inr (.inr (.inl hm))))) (by rw [h.r4 k hm]; decide) (by rw [h.r4 k hm]; decide))
    · exact (hro _ (hlt _ (.inl rfl))).trans h.r0
    · exact (hro _ (hlt _ m1)).trans h.r1
    · exact (hro _ (hlt _ m2)).trans h.r2
    · exact (hro _ (hlt _ m3)).trans h.r3
    · intro k hm
      exact (hro k (hlt k (.inr (.inr (.inr (.inr (.inl hm))))))).trans (h.r4 k hm)
    · intro k hm
      show (if W.heap.size ≤ k then 5 else y.role k) = 5
      rcases hown k hm with h1 | h1
      · rw [hro k (hlt k (.inr (.inr (.inr (.inr (.inr (.inl h1)))))))]; exact h.r5 k h1
      · rw [if_pos h1]
    · intro i x hi
      have h6 := h.r6 i x hi
      exact ⟨(hro _ (hlt _ (mu i x _ hi (.inl rfl)))).trans h6.1, (hro _ (hlt _ (mu i x _ hi (.inr (.inl rfl))))).trans h6.2.1, (hro _ (hlt _ (mu i x _ hi (.inr (.inr rfl))))).trans h6.2.2⟩
  · rintro k (h1 | h1 | h1 | h1 | h1 | h1 | h1)
    · exact .inl (.inl h1)
    · exact .inl (.inr (.inl h1))
    · exact .inl (.inr (.inr (.inl h1)))
    · exact .inl (.inr (.inr (.inr (.inl h1))))
    · exact .inl (.inr (.inr (.inr (.inr (.inl h1)))))
    · rcases hown k h1 with h2 | h2
      · exact .inl (.inr (.inr (.inr (.inr (.inr (.inl h2))))))
      · exact .inr h2
    · exact .inl (.inr (.inr (.inr (.inr (.inr (.inr h1))))))
/-- The head is another one. -/
theorem YAt.turnHead {W W' : World} {y : YS} (h : YAt W y) (h' : He) (hk : Kp (fun k => k = y.hb ∨ k = y.mb ∨ k = y.cb) W W') (hh : HeadAt W' y.hb y.mb y.cb h') : YAt W' { y with h := h' } := by
  have hlt := h.lt
  have hkeep : ∀ k, y.mem k → y.role k ≠ 1 → y.role k ≠ 2 → y.role k ≠ 3 → W'.heap[k]? = W.heap[k]? := fun k hm h1 h2 h3 => hk.block k (hlt k hm) (fun e => by
    rcases e with rfl | rfl | rfl
    · exact h1 h.r1
    · exact h2 h.r2
    · exact h3 h.r3)
  refine { row := ?_, head := hh, un := ?_, ur := ?_, wr := ?_, wok := h.wok, r0 := h.r0, r1 := h.r1, r2 := h.r2, r3 := h.r3, r4 := h.r4, r5 := h.r5, r6 := h.r6 }
  · exact (hkeep _ (.inl rfl) (by rw [h.r0]; decide) (by rw [h.r0]; decide) (by rw [h.r0]; decide)).trans h.row
  · intro x hx
    obtain ⟨i, hi⟩ := List.mem_iff_getElem?.1 hx
    have h6 := h.r6 i x hi
    refine (h.un x hx).kept (fun k hm => hkeep k (.inr (.inr (.inr (.inr (.inr (.inr ⟨x, hx, hm⟩)))))) ?_ ?_ ?_)
    all_goals (rcases hm with rfl | rfl | rfl <;> omega)
  · exact ownsRow_kept h.ur (fun k hm => hkeep k (.inr (.inr (.inr (.inr (.inl hm))))) (by rw [h.r4 k hm]; decide) (by rw [h.r4 k hm]; decide) (by rw [h.r4 k hm]; decide))
  · exact h.wr.kept (fun k hm => hkeep k (.inr (.inr (.inr (.inr (.inr (.inl hm)))))) (by rw [h.r5 k hm]; decide) (by rw [h.r5 k hm]; decide) (by rw [h.r5 k hm]; decide))
/-- A unit is another one, in the same blocks. -/
theorem YAt.turnUnit {W W' : World} {y : YS} (h : YAt W y) (i : Nat) (x x' : Us) (hi : y.us[i]? = some x) (hs : Us.sm x x') (hk : Kp x.mem W W') (hu : UnB W' x' []) : YAt W' { y with us := y.us.set i x' } := by
  have hlt := h.lt
  have hil : i < y.us.length := (List.getElem?_eq_some_iff.1 hi).1
  have h6 := h.r6 i x hi
  have hkeep : ∀ k, y.mem k → y.role k ≠ 6 + 3 * i → y.role k ≠ 7 + 3 * i → y.role k ≠ 8 + 3 * i → W'.heap[k]? = W.heap[k]? := fun k hm h1 h2 h3 => hk.block k (hlt k hm) (fun e => by
    rcases e with rfl | rfl | rfl
    · exact h1 h6.1
    · exact h2 h6.2.1
    · exact h3 h6.2.2)
  have m1 : y.mem y.hb := .inr (.inl rfl)
  have m2 : y.mem y.mb := .inr (.inr (.inl rfl))
  have m3 : y.mem y.cb := .inr (.inr (.inr (.inl rfl)))
  have hub : (y.us.set i x').map Us.ub = y.us.map Us.ub := by
    rw [List.map_set, hs.1]
    have : (y.us.map Us.ub)[i]? = some x.ub := by simp [hi]
    obtain ⟨h1, h2⟩ := List.getElem?_eq_some_iff.1 this
    rw [← h2]; exact List.set_getElem_self ..
  refine { row := ?_, head := ?_, un := ?_, ur := ?_, wr := ?_, wok := h.wok, r0 := h.r0, r1 := h.r1, r2 := h.r2, r3 := h.r3, r4 := h.r4, r5 := h.r5, r6 := ?_ }
  · exact (hkeep _ (.inl rfl) (by rw [h.r0]; omega) (by rw [h.r0]; omega) (by rw [h.r0]; omega)).trans h.row
  · exact h.head.kept (hkeep _ m1 (by rw [h.r1]; omega) (by rw [h.r1]; omega) (by rw [h.r1]; omega)) (hkeep _ m2 (by rw [h.r2]; omega) (by rw [h.r2]; omega) (by rw [h.r2]; omega)) (hkeep _ m3 (by rw [h.r3]; omega) (by rw [h.r3]; omega) (by rw [h.r3]; omega))
  · intro z hz
    obtain ⟨j, hj⟩ := List.mem_iff_getElem?.1 hz
    rw [List.getElem?_set] at hj
    by_cases e : i = j
    · rw [if_pos e] at hj
      rw [if_pos (by omega)] at hj
      injection hj with hj
      rw [← hj]; exact hu
    · rw [if_neg e] at hj
      have h7 := h.r6 j z hj
      have hz2 : z ∈ y.us := List.mem_iff_getElem?.2 ⟨j, hj⟩
      refine (h.un z hz2).kept (fun k hm => hkeep k (.inr (.inr (.inr (.inr (.inr (.inr ⟨z, hz2, hm⟩)))))) ?_ ?_ ?_)
      all_goals (rcases hm with rfl | rfl | rfl <;> omega)
  · show W'.ownsRow 0 _ 1 y.uv (y.us.set i x').length (((y.us.set i x').map Us.ub).map uptr)
    rw [hub, List.length_set]
    exact ownsRow_kept h.ur (fun k hm => hkeep k (.inr (.inr (.inr (.inr (.inl hm))))) (by rw [h.r4 k hm]; omega) (by rw [h.r4 k hm]; omega) (by rw [h.r4 k hm]; omega))
  · exact h.wr.kept (fun k hm => hkeep k (.inr (.inr (.inr (.inr (.inr (.inl hm)))))) (by rw [h.r5 k hm]; omega) (by rw [h.r5 k hm]; omega) (by rw [h.r5 k hm]; omega))
  · intro j z hj
    show y.role z.ub = _ ∧ _
    have hj : (y.us.set i x')[j]? = some z := hj
    rw [List.getElem?_set] at hj
    by_cases e : i = j
    · rw [if_pos e, if_pos (by omega)] at hj
      injection hj with hj
      rw [← hj, hs.1, hs.2.1, hs.2.2, ← e]; exact h6
    · rw [if_neg e] at hj
      exact h.r6 j z hj
theorem YAt.mem_unit {y : YS} (i : Nat) (x x' : Us) (hi : y.us[i]? = some x) (hs : Us.sm x x') : ∀ k, ({ y with us := y.us.set i x' } : YS).mem k → y.mem k := by
  rintro k (h1 | h1 | h1 | h1 | h1 | h1 | ⟨z, hz, h1⟩)
  · exact .inl h1
  · exact .inr (.inl h1)
  · exact .inr (.inr (.inl h1))
  · exact .inr (.inr (.inr (.inl h1)))
  · exact .inr (.inr (.inr (.inr (.inl h1))))
  · exact .inr (.inr (.inr (.inr (.inr (.inl h1)))))
  · rcases List.mem_or_eq_of_mem_set hz with hz | rfl
    · exact .inr (.inr (.inr (.inr (.inr (.inr ⟨z, hz, h1⟩)))))
    · exact .inr (.inr (.inr (.inr (.inr (.inr ⟨x, List.mem_iff_getElem?.2 ⟨i, hi⟩, by rw [← hs.mem]; exact h1⟩)))))
/-- A yard in a world: its block, what it may use, what it is. -/
def YIs (W : World) (b : Nat) (F : Nat → Prop) (s : Ya) : Prop := ∃ y : YS, y.yb = b ∧ y.abs = s ∧ YAt W y ∧ ∀ k, y.mem k → F k
theorem YIs.kept {W W' : World} {b : Nat} {F : Nat → Prop} {s : Ya} (h : YIs W b F s) (hk : ∀ k, k < W.heap.size → F k → W'.heap[k]? = W.heap[k]?) : YIs W' b F s := by
  obtain ⟨y, h1, h2, h3, h4⟩ := h
  exact ⟨y, h1, h2, h3.kept (fun k hm => hk k (h3.lt k hm) (h4 k hm)), h4⟩
theorem YIs.mono {W : World} {b : Nat} {F G : Nat → Prop} {s : Ya} (h : YIs W b F s) (hg : ∀ k, F k → G k) : YIs W b G s := by
  obtain ⟨y, h1, h2, h3, h4⟩ := h
  exact ⟨y, h1, h2, h3, fun k hm => hg k (h4 k hm)⟩
end Go.Proofs.Ytimdaceidhdaeaa

namespace Go.Proofs.Ytimdaceidhdaeaa
open Go.RowKit Go.Proofs
theorem YAt.c0 {W : World} {y : YS} (h : YAt W y) : W.cell? ⟨y.yb, 0, none⟩ = some (.pointer (some ⟨y.hb, 0, none⟩)) := by rw [cell_of_row _ _ _ _ _ _ h.row]; rfl
theorem YAt.c1 {W : World} {y : YS} (h : YAt W y) : W.cell? ⟨y.yb, 1, none⟩ = some y.uv := by rw [cell_of_row _ _ _ _ _ _ h.row]; rfl
theorem YAt.c2 {W : World} {y : YS} (h : YAt W y) : W.cell? ⟨y.yb, 2, none⟩ = some y.wv := by rw [cell_of_row _ _ _ _ _ _ h.row]; rfl
theorem RowOf.form {w : World} {e : TypeId} {s : Nat} {v : Value} {n : Nat} {xs : List Value} (h : RowOf w e s v n xs) : ∃ a cap, v = .slice a n cap := by
  rcases h.2 with ⟨rfl, rfl⟩ | ⟨g, cap, cur, rfl, _⟩
  · exact ⟨none, 0, rfl⟩
  · exact ⟨_, _, rfl⟩
theorem yard_Notes (y : YS) (w : World) (H : YAt w y) : Calls Try.prog 16 #[.pointer (some ⟨y.yb, 0, none⟩)] w fun r w' => r = .returned (I y.way.length) ∧ w' = w := by
  have c2 := H.c2
  obtain ⟨a, cap, hv⟩ := H.wr.form
  rw [hv] at c2
  clear hv H
  go_enter Try.func16, Try.ntmps16
  go_wp2_with fail
  go_ret
  exact ⟨rfl, rfl⟩
theorem own_in {w : World} {e : TypeId} {v : Value} {n : Nat} {xs : List Value} (h : w.ownsRow 0 e 1 v n xs) (hn : 0 < n) : ∃ g cap, v = .slice (some ⟨g, 0, none⟩) n cap ∧ ∀ i, i < n → w.cell? ⟨g, i, none⟩ = xs[i]? := by
  obtain ⟨A, c, g, hv, hc, hg, hr⟩ := own_read h
  obtain ⟨hA, _, _⟩ := hg hn
  subst hA
  exact ⟨g, c, hv, fun i hi => by have := hr i hi; rw [Nat.zero_add] at this; exact this⟩
theorem own_form {w : World} {e : TypeId} {v : Value} {n : Nat} {xs : List Value} (h : w.ownsRow 0 e 1 v n xs) : ∃ a cap, v = .slice a n cap := by
  obtain ⟨A, c, g, hv, _⟩ := own_read h
  exact ⟨A, c, hv⟩
/-- The unit of a number. -/
theorem unit_at (y : YS) (w : World) (H : YAt w y) (hl : y.us.length < 1000) (i : Nat) (x : Us) (hi : y.us[i]? = some x) :
    Calls Try.prog 40 #[.pointer (some ⟨y.yb, 1, none⟩), .int .i64 i] w fun r w' => r = .returned (.tuple #[.pointer (some ⟨x.ub, 0, none⟩), .bool true]) ∧ w' = w := by
  have hil := (List.getElem?_eq_some_iff.1 hi).1
  have c1 := H.c1
  obtain ⟨g, cap, hv, hr⟩ := own_in H.ur (by omega)
  have h2 := hr i hil
  rw [hv] at c1
  refine units_at_in y.yb 1 g y.us.length cap x.ub i w c1 hil (by omega) ?_
  rw [h2]; simp [hi, uptr]
theorem unit_at_out (y : YS) (w : World) (H : YAt w y) (i : Int) (hi : i < 0 ∨ (y.us.length : Int) ≤ i) :
    Calls Try.prog 40 #[.pointer (some ⟨y.yb, 1, none⟩), .int .i64 i] w fun r w' => r = .returned (.tuple #[.pointer none, .bool false]) ∧ w' = w := by
  have c1 := H.c1
  obtain ⟨a, cap, hv⟩ := own_form H.ur
  rw [hv] at c1
  exact units_at_out y.yb 1 y.us.length cap a i w c1 hi
def Uu.low (u : Uu) : Int := match u.st with | .some p => p.ver | .none => 0
set_option maxHeartbeats 1000000 in
theorem yard_Version_in (y : YS) (w : World) (H : YAt w y) (hl : y.us.length < 1000) (i : Nat) (x : Us) (hi : y.us[i]? = some x) :
    Calls Try.prog 15 #[.pointer (some ⟨y.yb, 0, none⟩), .int .i64 i] w fun r w' => r = .returned (.tuple #[I x.abs.low, .bool x.abs.up]) ∧ ∃ n, w' = w.drewN n := by
  have hu := H.un x (List.mem_iff_getElem?.2 ⟨i, hi⟩)
  have HU := Bx.mk (unit_at y w H hl i x hi)
  have c0 : w.cell? ⟨x.ub, 0, none⟩ = some (.pointer (some ⟨x.un.pb, 0, none⟩)) := by rw [cell_of_row _ _ _ _ _ _ hu.u]; rfl
  have HV := Bx.mk (plane_Version x.un.pb x.pl w hu.p hu.ok1)
  have he : Bx (x.pl.x.ver = x.abs.low ∧ x.pl.is = x.abs.up) := ⟨by
    unfold Us.abs Uu.low Uu.up
    cases h : x.pl.is
    · simp [hu.rel0 h]
    · simp [hu.rel h]⟩
  rw [he.out.1, he.out.2] at HV
  clear hu he
  generalize x.abs.low = lo at HV ⊢
  generalize x.abs.up = up at HV ⊢
  go_enter Try.func15, Try.ntmps15
  go_wp2_with (first
    | (go_at_call 40; refine HU.out.mono ?_; rintro r w' ⟨rfl, rfl⟩)
    | (go_at_call 42; refine HV.out.mono ?_; rintro r w' ⟨rfl, n, rfl⟩))
  exact bodyPost_ret (results_tmp2 rfl _ _ _) rfl ⟨rfl, _, rfl⟩
theorem yard_Version_out (y : YS) (w : World) (H : YAt w y) (i : Int) (hi : i < 0 ∨ (y.us.length : Int) ≤ i) :
    Calls Try.prog 15 #[.pointer (some ⟨y.yb, 0, none⟩), .int .i64 i] w fun r w' => r = .returned (.tuple #[I 0, .bool false]) ∧ w' = w := by
  have HU := Bx.mk (unit_at_out y w H i hi)
  clear H hi
  go_enter Try.func15, Try.ntmps15
  go_wp2_with (go_at_call 40; refine HU.out.mono ?_; rintro r w' ⟨rfl, rfl⟩)
  exact bodyPost_ret (results_tmp2 rfl _ _ _) rfl ⟨rfl, rfl⟩
end Go.Proofs.Ytimdaceidhdaeaa
