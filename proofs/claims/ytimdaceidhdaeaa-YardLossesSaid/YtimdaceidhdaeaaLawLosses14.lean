/- Proved: lemmas that the law's proof stands on (LawB, LawC, YardLo0, LawLo). Conditions: as each states. -/
import Derived.Test.YtimdaceidhdaeaaLawTwice13

namespace Go.Proofs.Ytimdaceidhdaeaa
open Go.RowKit Go.Proofs
def pk : Po := Po.new 10 80 Ke.zero Ke.zero
def k0 : Ya := Ya.new pk 2
def k1 : Ya := k0.tick
def k2 : Ya := k1.deliver 0 false
def k3 : Ya := k2.deliver 0 false
def k4 : Ya := k3.deliver 0 false
def k5 : Ya := k4.lose 0
theorem pk_ok : pk.ok := Po.new_ok _ _ _ _
theorem pk_ver : pk.ver = 0 := rfl
theorem k1_eq : k1 = ⟨k0.h, List.replicate 2 ⟨0, .none⟩, (List.range 2).map (firstN pk)⟩ := tick_new pk 2 (by decide) (by decide)
theorem k2_eq : k2 = ⟨k0.h, [⟨0, .some pk⟩, ⟨0, .none⟩], [firstN pk 1, (⟨0, .some pk⟩ : Uu).word 0]⟩ := by
  unfold k2
  rw [k1_eq, deliver_first _ pk 0 0 false rfl (by decide)]
  rfl
theorem k3_eq : k3 = ⟨k0.h, [⟨0, .some pk⟩, ⟨0, .some pk⟩], [(⟨0, .some pk⟩ : Uu).word 0, (⟨0, .some pk⟩ : Uu).word 1]⟩ := by
  unfold k3
  rw [k2_eq, deliver_first _ pk 0 1 false rfl (by decide)]
  rfl
theorem k_del1 : DelOk k1 0 := by rw [k1_eq]; exact delOk_first _ pk 0 0 pk_ok rfl (by decide)
theorem k_del2 : DelOk k2 0 := by rw [k2_eq]; exact delOk_first _ pk 0 1 pk_ok rfl (by decide)
theorem k_del3 : DelOk k3 0 := by rw [k3_eq]; exact ⟨_, rfl, .inl rfl⟩
theorem k4_way : k4.way.length = 1 := by unfold k4; rw [k3_eq]; rfl
theorem k5_way : k5.way.length = 0 := by unfold k5 k4; rw [k3_eq]; rfl
theorem k5_p : k5.h.p = pk := by unfold k5 k4; rw [k3_eq]; rfl
theorem kn_New {w W : World} {pb : Nat} (hB : Below w.heap.size w W) (hrow : W.heap[pb]? = some (.cells pk.cells.toArray 33 (0, 0))) :
    Calls Try.prog 12 #[.agg pk.cells.toArray, .int .i64 2] W fun r W' => ∃ yb, r = .returned (.tuple #[.pointer (some ⟨yb, 0, none⟩), I 0]) ∧ LawE w yb pb pk k0 W' := lw_New pk_ok 2 (by decide) (by decide) hB hrow
theorem kn_Notes0 {w W : World} {yb pb : Nat} (h : LawE w yb pb pk k0 W) : Calls Try.prog 16 #[.pointer (some ⟨yb, 0, none⟩)] W fun r W' => r = .returned (I 0) ∧ W' = W := lw_Notes h
theorem kn_Tick {w W : World} {yb pb : Nat} (h : LawE w yb pb pk k0 W) : Calls Try.prog 13 #[.pointer (some ⟨yb, 0, none⟩)] W fun r W' => r = .returned (I 2) ∧ LawE w yb pb pk k1 W' := by
  have hn : k0.h.next = k0.h := next_new pk 2 (by decide) (by decide)
  have := lw_Tick h (pub_none _ rfl) (by rw [hn]; decide) (by rw [hn]; decide) (by rw [hn]; decide) (by decide)
  rw [show k0.tick = k1 from rfl, show k1.way.length = 2 by rw [k1_eq]; rfl] at this
  exact this
theorem kn_Deliver1 {w W : World} {yb pb : Nat} (h : LawE w yb pb pk k1 W) : Calls Try.prog 14 #[.pointer (some ⟨yb, 0, none⟩), .int .i64 0, .bool false] W fun r W' => r = .returned (.bool true) ∧ LawE w yb pb pk k2 W' :=
  lw_Deliver h 0 false k_del1 (by rw [k1_eq]; decide) (by rw [k1_eq]; decide)
theorem kn_Deliver2 {w W : World} {yb pb : Nat} (h : LawE w yb pb pk k2 W) : Calls Try.prog 14 #[.pointer (some ⟨yb, 0, none⟩), .int .i64 0, .bool false] W fun r W' => r = .returned (.bool true) ∧ LawE w yb pb pk k3 W' :=
  lw_Deliver h 0 false k_del2 (by rw [k2_eq]; decide) (by rw [k2_eq]; decide)
theorem kn_Deliver3 {w W : World} {yb pb : Nat} (h : LawE w yb pb pk k3 W) : Calls Try.prog 14 #[.pointer (some ⟨yb, 0, none⟩), .int .i64 0, .bool false] W fun r W' => r = .returned (.bool true) ∧ LawE w yb pb pk k4 W' :=
  lw_Deliver h 0 false k_del3 (by rw [k3_eq]; decide) (by rw [k3_eq]; decide)
theorem kn_Version {w W : World} {yb pb : Nat} (h : LawE w yb pb pk k3 W) : Calls Try.prog 15 #[.pointer (some ⟨yb, 0, none⟩), .int .i64 1] W fun r W' => r = .returned (.tuple #[I 0, .bool true]) ∧ LawE w yb pb pk k3 W' := by
  have := lw_Version h 1 (by rw [k3_eq]; decide) (by rw [k3_eq]; decide)
  refine Calls.mono (show Calls _ _ #[.pointer (some ⟨yb, 0, none⟩), .int .i64 1] _ _ from this) ?_
  rintro r W' ⟨rfl, n, rfl⟩
  exact ⟨by rw [k3_eq]; rfl, h.drewN n⟩
theorem kn_Notes3 {w W : World} {yb pb : Nat} (h : LawE w yb pb pk k3 W) : Calls Try.prog 16 #[.pointer (some ⟨yb, 0, none⟩)] W fun r W' => r = .returned (I 2) ∧ W' = W := by
  have := lw_Notes h
  rw [show k3.way.length = 2 by rw [k3_eq]; rfl] at this
  exact this
theorem kn_Lose {w W : World} {yb pb : Nat} (h : LawE w yb pb pk k4 W) : Calls Try.prog 17 #[.pointer (some ⟨yb, 0, none⟩), .int .i64 0] W fun r W' => r = .returned (.bool true) ∧ LawE w yb pb pk k5 W' :=
  lw_Lose h 0 (by rw [k4_way]; decide) (by rw [k4_way]; decide)
theorem kn_Lose2 {w W : World} {yb pb : Nat} (h : LawE w yb pb pk k5 W) : Calls Try.prog 17 #[.pointer (some ⟨yb, 0, none⟩), .int .i64 0] W fun r W' => r = .returned (.bool false) ∧ LawE w yb pb pk k5 W' :=
  lw_Lose_out h 0 (.inr (by rw [k5_way]; decide))
theorem kn_Pool {w W : World} {yb pb : Nat} (h : LawE w yb pb pk k5 W) : Calls Try.prog 26 #[.pointer (some ⟨yb, 0, none⟩)] W fun r W' => r = .returned (.agg pk.cells.toArray) ∧ LawE w yb pb pk k5 W' := by
  have := lw_Pool h
  rw [k5_p] at this
  exact this
theorem exec_eql {P : Program} {o : Oper} {a : Act} {w : World} (t : TypeId) (x y : Operand) (r : TypeId) (ho : o.op = .binOp .eql t x y r) (xs ys : Array Value) (hx : a.eval x = .agg xs) (hy : a.eval y = .agg ys) (hg : P.eqGuardType P.depth t = false) (b : Bool)
    (hr : (Op.equalIn 10000 t (.agg xs) (.agg ys)).run P w = .ok b w) : (execOp a.eval o).run P w = .ok (.value (.bool b)) w := by
  unfold execOp
  simp only [ho, hx, hy, Sem.run_bind, eqGuard, run_eql_struct]
  simp [hg]
  rw [hr]
  rfl
structure SKn (pb : Nat) (W : World) : Prop where
  row : W.heap[pb]? = some (.cells pk.cells.toArray 33 (0, 0))
set_option maxHeartbeats 4000000 in
set_option maxRecDepth 100000 in
theorem law12_known (w : World) : Calls Try.prog 9 #[] w fun r w' => r = .returned (.bool true) ∧ Below w.heap.size w w' := by
  have hz := fun w => zero33 w
  have HN : Bx (Calls Try.prog 29 #[.int .i64 10, .int .i64 80, .agg #[.int .u64 0, .int .u64 0], .agg #[.int .u64 0, .int .u64 0]] w fun r w' => r = .returned (.tuple #[.agg pk.cells.toArray, I 0]) ∧ Below w.heap.size w w') := ⟨ref6_New 10 80 Ke.zero Ke.zero w (by decide) (by decide) (by decide) (by decide)⟩
  have HL := Bx.mk (Po.cells_len _ pk_ok)
  have HI := Bx.mk (size33s _ pk_ok)
  have HI2 := Bx.mk (size33 _ pk_ok)
  have HO := Bx.mk (Po.one pk)
  go_enter Try.func9, Try.ntmps9
  go_upto_region 9 with (first
    | (go_at_call 29; refine HN.out.mono ?_; rintro r w1 ⟨rfl, hB1⟩
       have HT := Bx.mk (there_of_block (heap_alloc_new w1 (.cells Po.zero.cells.toArray 33)) 0 pk.cells.toArray.size (by rw [List.size_toArray, HL.out, List.size_toArray, Po.cells_len _ Po.zero_ok]; decide))
       have HR := Bx.mk (row_stored (heap_alloc_new w1 (.cells Po.zero.cells.toArray 33)) (vs := pk.cells) (by rw [HL.out, List.size_toArray, Po.cells_len _ Po.zero_ok]))
       have HB := Bx.mk (below_setCells (hB1.alloc hB1.size (.cells Po.zero.cells.toArray 33)) hB1.size 0 pk.cells)
       clear hB1)
    | (refine wpList_store_mid rfl 33 _ _ rfl w1.heap.size 0 _ rfl rfl HT.out HI.out HO.out ?_
       simp only [List.toList_toArray]
       generalize (w1.alloc (.cells Po.zero.cells.toArray 33)).setCells w1.heap.size 0 pk.cells = w2 at HR HB ⊢
       generalize w1.heap.size = pb at HR ⊢
       have HRg := Bx.mk (pool_range HR.out))
    | (refine wpList_load_mid rfl 33 _ rfl pb 0 rfl pk.cells _ HRg.out Try.underlying33 rfl HI2.out ?_)
    | (go_at_call 12; refine (kn_New HB.out HR.out).mono ?_; rintro r w3 ⟨yb, rfl, hE⟩; have HE := Bx.mk hE; clear hE)
    | (go_at_call 16; refine (kn_Notes0 HE.out).mono ?_; rintro r w4 ⟨rfl, rfl⟩)
    | (go_at_call 13; refine (kn_Tick HE.out).mono ?_; rintro r w4 ⟨rfl, hE⟩; clear HE; have HE1 := Bx.mk hE; clear hE)
    | (go_at_call 14; refine (kn_Deliver1 HE1.out).mono ?_; rintro r w5 ⟨rfl, hE⟩; clear HE1; have HE2 := Bx.mk hE; clear hE)
    | (go_at_call 14; refine (kn_Deliver2 HE2.out).mono ?_; rintro r w6 ⟨rfl, hE⟩; clear HE2; have HE3 := Bx.mk hE; clear hE)
    | (go_at_call 15; refine (kn_Version HE3.out).mono ?_; rintro r w7 ⟨rfl, hE⟩; clear HE3; have HE4 := Bx.mk hE; clear hE))
  clear HN HL HI HO HT HB HR HRg
  refine wp_region_noPanic ?_
  refine wp_region_held_drew (S := SKn pb) (by kernel_rfl) ⟨HE4.out.drew.row⟩ ?_
  intro hS
  have HA := Bx.mk HE4.out.drew
  clear HE4
  generalize w7.drew = X at hS HA ⊢
  refine wpAnyH_take (i := 0) (v := ?_) rfl (by kernel_rfl) (by kernel_rfl) (by kernel_rfl) (fun _ _ _ h => h) (Or.inl ⟨by rfl, ?_⟩) (by assumption) ?_
  rotate_left
  · intro W1 h1; clear h1; go_simp; first | done | with_reducible rfl
  simp only [List.getElem_toArray, List.getElem_cons_succ, List.getElem_cons_zero, Act.put, List.setIfInBounds_toArray, List.set_cons_zero, List.set_cons_succ]
  refine wpAnyH_take (i := 1) (v := ?_) rfl (by kernel_rfl) (by kernel_rfl) (by kernel_rfl) (fun _ _ _ h => h) (Or.inl ⟨by rfl, ?_⟩) (by assumption) ?_
  rotate_left
  · intro W1 h1; clear h1; go_simp; first | done | with_reducible rfl
  simp only [List.getElem_toArray, List.getElem_cons_succ, List.getElem_cons_zero, Act.put, List.setIfInBounds_toArray, List.set_cons_zero, List.set_cons_succ]
  refine wpAnyH_take (i := 2) (v := ?_) rfl (by kernel_rfl) (by kernel_rfl) (by kernel_rfl) (fun _ _ _ h => h) (Or.inl ⟨by rfl, ?_⟩) (by assumption) ?_
  rotate_left
  · intro W1 h1; clear h1; go_simp; first | done | with_reducible rfl
  simp only [List.getElem_toArray, List.getElem_cons_succ, List.getElem_cons_zero, Act.put, List.setIfInBounds_toArray, List.set_cons_zero, List.set_cons_succ]
  refine wpAnyH_take (i := 3) (v := ?_) rfl (by kernel_rfl) (by kernel_rfl) (by kernel_rfl) (fun _ _ _ h => h) (Or.inl ⟨by rfl, ?_⟩) (by assumption) ?_
  rotate_left
  · intro W1 h1; clear h1; go_simp; first | done | with_reducible rfl
  simp only [List.getElem_toArray, List.getElem_cons_succ, List.getElem_cons_zero, Act.put, List.setIfInBounds_toArray, List.set_cons_zero, List.set_cons_succ]
  refine wpAnyH_take (i := 4) (v := ?_) rfl (by kernel_rfl) (by kernel_rfl) (by kernel_rfl) (fun _ _ _ h => h) (Or.inl ⟨by rfl, ?_⟩) (by assumption) ?_
  rotate_left
  · intro W1 h1; clear h1; go_simp; first | done | with_reducible rfl
  simp only [List.getElem_toArray, List.getElem_cons_succ, List.getElem_cons_zero, Act.put, List.setIfInBounds_toArray, List.set_cons_zero, List.set_cons_succ]
  refine wpAnyH_take (i := 5) (v := ?_) rfl (by kernel_rfl) (by kernel_rfl) (by kernel_rfl) (fun _ _ _ h => h) (Or.inl ⟨by rfl, ?_⟩) (by assumption) ?_
  rotate_left
  · intro W1 h1; clear h1; go_simp; first | done | with_reducible rfl
  simp only [List.getElem_toArray, List.getElem_cons_succ, List.getElem_cons_zero, Act.put, List.setIfInBounds_toArray, List.set_cons_zero, List.set_cons_succ]
  refine wpAnyH_take (i := 6) (v := ?_) rfl (by kernel_rfl) (by kernel_rfl) (by kernel_rfl) (fun _ _ _ h => h) (Or.inl ⟨by rfl, ?_⟩) (by assumption) ?_
  rotate_left
  · intro W1 h1; clear h1; go_simp; first | done | with_reducible rfl
  simp only [List.getElem_toArray, List.getElem_cons_succ, List.getElem_cons_zero, Act.put, List.setIfInBounds_toArray, List.set_cons_zero, List.set_cons_succ]
  refine wpAnyH_take (i := 7) (v := ?_) rfl (by kernel_rfl) (by kernel_rfl) (by kernel_rfl) (fun _ _ _ h => h) (Or.inl ⟨by rfl, ?_⟩) (by assumption) ?_
  rotate_left
  · intro W1 h1; clear h1; go_simp; first | done | with_reducible rfl
  simp only [List.getElem_toArray, List.getElem_cons_succ, List.getElem_cons_zero, Act.put, List.setIfInBounds_toArray, List.set_cons_zero, List.set_cons_succ]
  refine wpAnyH_take (i := 8) (v := ?_) rfl (by kernel_rfl) (by kernel_rfl) (by kernel_rfl) (fun _ _ _ h => h) (Or.inl ⟨by rfl, ?_⟩) (by assumption) ?_
  rotate_left
  · intro W1 h1; clear h1; go_simp; first | done | with_reducible rfl
  simp only [List.getElem_toArray, List.getElem_cons_succ, List.getElem_cons_zero, Act.put, List.setIfInBounds_toArray, List.set_cons_zero, List.set_cons_succ]
  refine wpAnyH_take (i := 9) (v := ?_) rfl (by kernel_rfl) (by kernel_rfl) (by kernel_rfl) (fun _ _ _ h => h) (Or.inl ⟨by rfl, ?_⟩) (by assumption) ?_
  rotate_left
  · intro W1 h1; clear h1; go_simp; first | done | with_reducible rfl
  simp only [List.getElem_toArray, List.getElem_cons_succ, List.getElem_cons_zero, Act.put, List.setIfInBounds_toArray, List.set_cons_zero, List.set_cons_succ]
  refine wpAnyH_take (i := 10) (v := ?_) rfl (by kernel_rfl) (by kernel_rfl) (by kernel_rfl) (fun _ _ _ h => h) (Or.inl ⟨by rfl, ?_⟩) (by assumption) ?_
  rotate_left
  · intro W1 h1; clear h1; go_simp; first | done | with_reducible rfl
  simp only [List.getElem_toArray, List.getElem_cons_succ, List.getElem_cons_zero, Act.put, List.setIfInBounds_toArray, List.set_cons_zero, List.set_cons_succ]
  refine wpAnyH_take (i := 11) (v := ?_) rfl (by kernel_rfl) (by kernel_rfl) (by kernel_rfl) (fun _ _ _ h => h) (Or.inl ⟨by rfl, ?_⟩) (by assumption) ?_
  rotate_left
  · intro W1 h1; clear h1; go_simp; first | done | with_reducible rfl
  simp only [List.getElem_toArray, List.getElem_cons_succ, List.getElem_cons_zero, Act.put, List.setIfInBounds_toArray, List.set_cons_zero, List.set_cons_succ]
  refine wpAnyH_take (i := 12) (v := ?_) rfl (by kernel_rfl) (by kernel_rfl) (by kernel_rfl) (fun _ _ _ h => h) (Or.inl ⟨by rfl, ?_⟩) (by assumption) ?_
  rotate_left
  · intro W1 h1; clear h1; go_simp; first | done | with_reducible rfl
  simp only [List.getElem_toArray, List.getElem_cons_succ, List.getElem_cons_zero, Act.put, List.setIfInBounds_toArray, List.set_cons_zero, List.set_cons_succ]
  refine wpAnyH_take (i := 13) (v := ?_) rfl (by kernel_rfl) (by kernel_rfl) (by kernel_rfl) (fun _ _ _ h => h) (Or.inl ⟨by rfl, ?_⟩) (by assumption) ?_
  rotate_left
  · intro W1 h1; clear h1; go_simp; first | done | with_reducible rfl
  simp only [List.getElem_toArray, List.getElem_cons_succ, List.getElem_cons_zero, Act.put, List.setIfInBounds_toArray, List.set_cons_zero, List.set_cons_succ]
  refine wpAnyH_ready (rs := [14]) (by kernel_rfl) (by simp) ?_
  refine AllReadyH.cons rfl (fun K hK => ?_) AllReadyH.nil
  clear hS
  go_simp
  refine (kn_Notes3 HA.out).mono ?_
  rintro r W ⟨rfl, rfl⟩
  have HA2 := Bx.mk HA.out
  refine hK.out _ _ ⟨HA2.out.row⟩ (fun hS => ?_)
  clear hK K HA
  try simp only [List.getElem_toArray, List.getElem_cons_succ, List.getElem_cons_zero, Act.put, List.setIfInBounds_toArray, List.set_cons_zero, List.set_cons_succ]
  have HA := HA2
  clear HA2
  refine wpAnyH_take (i := 15) (v := ?_) rfl (by kernel_rfl) (by kernel_rfl) (by kernel_rfl) (fun _ _ _ h => h) (Or.inl ⟨by rfl, ?_⟩) (by assumption) ?_
  rotate_left
  · intro W1 h1; clear h1; go_simp; first | done | with_reducible rfl
  simp only [List.getElem_toArray, List.getElem_cons_succ, List.getElem_cons_zero, Act.put, List.setIfInBounds_toArray, List.set_cons_zero, List.set_cons_succ]
  refine wpAnyH_take (i := 16) (v := ?_) rfl (by kernel_rfl) (by kernel_rfl) (by kernel_rfl) (fun _ _ _ h => h) (Or.inl ⟨by rfl, ?_⟩) (by assumption) ?_
  rotate_left
  · intro W1 h1; clear h1; go_simp; first | done | with_reducible rfl
  simp only [List.getElem_toArray, List.getElem_cons_succ, List.getElem_cons_zero, Act.put, List.setIfInBounds_toArray, List.set_cons_zero, List.set_cons_succ]
  refine wpAnyH_take (i := 17) (v := ?_) rfl (by kernel_rfl) (by kernel_rfl) (by kernel_rfl) (fun _ _ _ h => h) (Or.inl ⟨by rfl, ?_⟩) (by assumption) ?_
  rotate_left
  · intro W1 h1; clear h1; go_simp; first | done | with_reducible rfl
  simp only [List.getElem_toArray, List.getElem_cons_succ, List.getElem_cons_zero, Act.put, List.setIfInBounds_toArray, List.set_cons_zero, List.set_cons_succ]
  refine wpAnyH_take (i := 18) (v := ?_) rfl (by kernel_rfl) (by kernel_rfl) (by kernel_rfl) (fun _ _ _ h => h) (Or.inl ⟨by rfl, ?_⟩) (by assumption) ?_
  rotate_left
  · intro W1 h1; clear h1; go_simp; first | done | with_reducible rfl
  simp only [List.getElem_toArray, List.getElem_cons_succ, List.getElem_cons_zero, Act.put, List.setIfInBounds_toArray, List.set_cons_zero, List.set_cons_succ]
  refine wpAnyH_take (i := 19) (v := ?_) rfl (by kernel_rfl) (by kernel_rfl) (by kernel_rfl) (fun _ _ _ h => h) (Or.inl ⟨by rfl, ?_⟩) (by assumption) ?_
  rotate_left
  · intro W1 h1; clear h1; go_simp; first | done | with_reducible rfl
  simp only [List.getElem_toArray, List.getElem_cons_succ, List.getElem_cons_zero, Act.put, List.setIfInBounds_toArray, List.set_cons_zero, List.set_cons_succ]
  refine wpAnyH_take (i := 20) (v := ?_) rfl (by kernel_rfl) (by kernel_rfl) (by kernel_rfl) (fun _ _ _ h => h) (Or.inl ⟨by rfl, ?_⟩) (by assumption) ?_
  rotate_left
  · intro W1 h1; clear h1; go_simp; first | done | with_reducible rfl
  simp only [List.getElem_toArray, List.getElem_cons_succ, List.getElem_cons_zero, Act.put, List.setIfInBounds_toArray, List.set_cons_zero, List.set_cons_succ]
  refine wpAnyH_take (i := 21) (v := ?_) rfl (by kernel_rfl) (by kernel_rfl) (by kernel_rfl) (fun _ _ _ h => h) (Or.inl ⟨by rfl, ?_⟩) (by assumption) ?_
  rotate_left
  · intro W1 h1; clear h1; go_simp; first | done | with_reducible rfl
  simp only [List.getElem_toArray, List.getElem_cons_succ, List.getElem_cons_zero, Act.put, List.setIfInBounds_toArray, List.set_cons_zero, List.set_cons_succ]
  refine wpAnyH_take (i := 22) (v := ?_) rfl (by kernel_rfl) (by kernel_rfl) (by kernel_rfl) (fun _ _ _ h => h) (Or.inl ⟨by rfl, ?_⟩) (by assumption) ?_
  rotate_left
  · intro W1 h1; clear h1; go_simp; first | done | with_reducible rfl
  simp only [List.getElem_toArray, List.getElem_cons_succ, List.getElem_cons_zero, Act.put, List.setIfInBounds_toArray, List.set_cons_zero, List.set_cons_succ]
  refine wpAnyH_take (i := 23) (v := ?_) rfl (by kernel_rfl) (by kernel_rfl) (by kernel_rfl) (fun _ _ _ h => h) (Or.inl ⟨by rfl, ?_⟩) (by assumption) ?_
  rotate_left
  · intro W1 h1; clear h1; go_simp; first | done | with_reducible rfl
  simp only [List.getElem_toArray, List.getElem_cons_succ, List.getElem_cons_zero, Act.put, List.setIfInBounds_toArray, List.set_cons_zero, List.set_cons_succ]
  refine wpAnyH_take (i := 24) (v := ?_) rfl (by kernel_rfl) (by kernel_rfl) (by kernel_rfl) (fun _ _ _ h => h) (Or.inl ⟨by rfl, ?_⟩) (by assumption) ?_
  rotate_left
  · intro W1 h1; clear h1; go_simp; first | done | with_reducible rfl
  simp only [List.getElem_toArray, List.getElem_cons_succ, List.getElem_cons_zero, Act.put, List.setIfInBounds_toArray, List.set_cons_zero, List.set_cons_succ]
  refine wpAnyH_take (i := 25) (v := ?_) rfl (by kernel_rfl) (by kernel_rfl) (by kernel_rfl) (fun _ _ _ h => h) (Or.inl ⟨by rfl, ?_⟩) (by assumption) ?_
  rotate_left
  · intro W1 h1; clear h1; go_simp; first | done | with_reducible rfl
  simp only [List.getElem_toArray, List.getElem_cons_succ, List.getElem_cons_zero, Act.put, List.setIfInBounds_toArray, List.set_cons_zero, List.set_cons_succ]
  refine wpAnyH_ready (rs := [26]) (by kernel_rfl) (by simp) ?_
  refine AllReadyH.cons rfl (fun K hK => ?_) AllReadyH.nil
  clear hS
  go_simp
  refine (kn_Deliver3 HA.out).mono ?_
  rintro r W ⟨rfl, hE⟩
  have HA2 := Bx.mk hE
  refine hK.out _ _ ⟨HA2.out.row⟩ (fun hS => ?_)
  clear hK K HA
  try simp only [List.getElem_toArray, List.getElem_cons_succ, List.getElem_cons_zero, Act.put, List.setIfInBounds_toArray, List.set_cons_zero, List.set_cons_succ]
  have HA := HA2
  clear HA2
  refine wpAnyH_take (i := 27) (v := ?_) rfl (by kernel_rfl) (by kernel_rfl) (by kernel_rfl) (fun _ _ _ h => h) (Or.inl ⟨by rfl, ?_⟩) (by assumption) ?_
  rotate_left
  · intro W1 h1; clear h1; go_simp; first | done | with_reducible rfl
  simp only [List.getElem_toArray, List.getElem_cons_succ, List.getElem_cons_zero, Act.put, List.setIfInBounds_toArray, List.set_cons_zero, List.set_cons_succ]
  refine wpAnyH_take (i := 28) (v := ?_) rfl (by kernel_rfl) (by kernel_rfl) (by kernel_rfl) (fun _ _ _ h => h) (Or.inl ⟨by rfl, ?_⟩) (by assumption) ?_
  rotate_left
  · intro W1 h1; clear h1; go_simp; first | done | with_reducible rfl
  simp only [List.getElem_toArray, List.getElem_cons_succ, List.getElem_cons_zero, Act.put, List.setIfInBounds_toArray, List.set_cons_zero, List.set_cons_succ]
  refine wpAnyH_take (i := 29) (v := ?_) rfl (by kernel_rfl) (by kernel_rfl) (by kernel_rfl) (fun _ _ _ h => h) (Or.inl ⟨by rfl, ?_⟩) (by assumption) ?_
  rotate_left
  · intro W1 h1; clear h1; go_simp; first | done | with_reducible rfl
  simp only [List.getElem_toArray, List.getElem_cons_succ, List.getElem_cons_zero, Act.put, List.setIfInBounds_toArray, List.set_cons_zero, List.set_cons_succ]
  refine wpAnyH_ready (rs := [30]) (by kernel_rfl) (by simp) ?_
  refine AllReadyH.cons rfl (fun K hK => ?_) AllReadyH.nil
  clear hS
  go_simp
  refine (kn_Lose HA.out).mono ?_
  rintro r W ⟨rfl, hE⟩
  have HA2 := Bx.mk hE
  refine hK.out _ _ ⟨HA2.out.row⟩ (fun hS => ?_)
  clear hK K HA
  try simp only [List.getElem_toArray, List.getElem_cons_succ, List.getElem_cons_zero, Act.put, List.setIfInBounds_toArray, List.set_cons_zero, List.set_cons_succ]
  have HA := HA2
  clear HA2
  refine wpAnyH_take (i := 31) (v := ?_) rfl (by kernel_rfl) (by kernel_rfl) (by kernel_rfl) (fun _ _ _ h => h) (Or.inl ⟨by rfl, ?_⟩) (by assumption) ?_
  rotate_left
  · intro W1 h1; clear h1; go_simp; first | done | with_reducible rfl
  simp only [List.getElem_toArray, List.getElem_cons_succ, List.getElem_cons_zero, Act.put, List.setIfInBounds_toArray, List.set_cons_zero, List.set_cons_succ]
  refine wpAnyH_take (i := 32) (v := ?_) rfl (by kernel_rfl) (by kernel_rfl) (by kernel_rfl) (fun _ _ _ h => h) (Or.inl ⟨by rfl, ?_⟩) (by assumption) ?_
  rotate_left
  · intro W1 h1; clear h1; go_simp; first | done | with_reducible rfl
  simp only [List.getElem_toArray, List.getElem_cons_succ, List.getElem_cons_zero, Act.put, List.setIfInBounds_toArray, List.set_cons_zero, List.set_cons_succ]
  refine wpAnyH_take (i := 33) (v := ?_) rfl (by kernel_rfl) (by kernel_rfl) (by kernel_rfl) (fun _ _ _ h => h) (Or.inl ⟨by rfl, ?_⟩) (by assumption) ?_
  rotate_left
  · intro W1 h1; clear h1; go_simp; first | done | with_reducible rfl
  simp only [List.getElem_toArray, List.getElem_cons_succ, List.getElem_cons_zero, Act.put, List.setIfInBounds_toArray, List.set_cons_zero, List.set_cons_succ]
  refine wpAnyH_ready (rs := [34]) (by kernel_rfl) (by simp) ?_
  refine AllReadyH.cons rfl (fun K hK => ?_) AllReadyH.nil
  clear hS
  go_simp
  refine (kn_Lose2 HA.out).mono ?_
  rintro r W ⟨rfl, hE⟩
  have HA2 := Bx.mk hE
  refine hK.out _ _ ⟨HA2.out.row⟩ (fun hS => ?_)
  clear hK K HA
  try simp only [List.getElem_toArray, List.getElem_cons_succ, List.getElem_cons_zero, Act.put, List.setIfInBounds_toArray, List.set_cons_zero, List.set_cons_succ]
  have HA := HA2
  clear HA2
  refine wpAnyH_take (i := 35) (v := ?_) rfl (by kernel_rfl) (by kernel_rfl) (by kernel_rfl) (fun _ _ _ h => h) (Or.inl ⟨by rfl, ?_⟩) (by assumption) ?_
  rotate_left
  · intro W1 h1; clear h1; go_simp; first | done | with_reducible rfl
  simp only [List.getElem_toArray, List.getElem_cons_succ, List.getElem_cons_zero, Act.put, List.setIfInBounds_toArray, List.set_cons_zero, List.set_cons_succ]
  refine wpAnyH_take (i := 36) (v := ?_) rfl (by kernel_rfl) (by kernel_rfl) (by kernel_rfl) (fun _ _ _ h => h) (Or.inl ⟨by rfl, ?_⟩) (by assumption) ?_
  rotate_left
  · intro W1 h1; clear h1; go_simp; first | done | with_reducible rfl
  simp only [List.getElem_toArray, List.getElem_cons_succ, List.getElem_cons_zero, Act.put, List.setIfInBounds_toArray, List.set_cons_zero, List.set_cons_succ]
  refine wpAnyH_take (i := 37) (v := ?_) rfl (by kernel_rfl) (by kernel_rfl) (by kernel_rfl) (fun _ _ _ h => h) (Or.inl ⟨by rfl, ?_⟩) (by assumption) ?_
  rotate_left
  · intro W1 h1; clear h1; go_simp; first | done | with_reducible rfl
  simp only [List.getElem_toArray, List.getElem_cons_succ, List.getElem_cons_zero, Act.put, List.setIfInBounds_toArray, List.set_cons_zero, List.set_cons_succ]
  refine wpAnyH_take (i := 38) (v := ?_) rfl (by kernel_rfl) (by kernel_rfl) (by kernel_rfl) (fun _ _ _ h => h) (Or.inl ⟨by rfl, ?_⟩) (by assumption) ?_
  rotate_left
  · intro W1 h1; clear h1; go_simp; first | done | with_reducible rfl
  simp only [List.getElem_toArray, List.getElem_cons_succ, List.getElem_cons_zero, Act.put, List.setIfInBounds_toArray, List.set_cons_zero, List.set_cons_succ]
  refine wpAnyH_take (i := 40) (v := .agg pk.cells.toArray) rfl (by kernel_rfl) (by kernel_rfl) (by kernel_rfl) (fun _ _ _ h => h) (yieldsIf_load_mid (by rfl) 33 _ rfl pb 0 rfl pk.cells _ (fun W h => pool_range h.row) Try.underlying33 rfl HI2.out) (by assumption) ?_
  simp only [List.getElem_toArray, List.getElem_cons_succ, List.getElem_cons_zero, Act.put, List.setIfInBounds_toArray, List.set_cons_zero, List.set_cons_succ]
  refine wpAnyH_ready (rs := [39]) (by kernel_rfl) (by simp) ?_
  refine AllReadyH.cons rfl (fun K hK => ?_) AllReadyH.nil
  clear hS
  go_simp
  refine (kn_Pool HA.out).mono ?_
  rintro r W ⟨rfl, hE⟩
  have HA2 := Bx.mk hE
  refine hK.out _ _ ⟨HA2.out.row⟩ (fun hS => ?_)
  clear hK K HA
  try simp only [List.getElem_toArray, List.getElem_cons_succ, List.getElem_cons_zero, Act.put, List.setIfInBounds_toArray, List.set_cons_zero, List.set_cons_succ]
  have HA := HA2
  clear HA2
  refine wpAnyH_take (i := 41) (v := .bool true) rfl (by kernel_rfl) (by kernel_rfl) (by kernel_rfl) (fun _ _ _ h => h) (Or.inl ⟨by rfl, fun W1 _ => exec_eql _ _ _ _ rfl pk.cells.toArray pk.cells.toArray rfl rfl (by kernel_rfl) true (eq_pool W1 pk pk_ok)⟩) (by assumption) ?_
  try simp only [List.getElem_toArray, List.getElem_cons_succ, List.getElem_cons_zero, Act.put, List.setIfInBounds_toArray, List.set_cons_zero, List.set_cons_succ]
  refine wpAnyH_take (i := 42) (v := ?_) rfl (by kernel_rfl) (by kernel_rfl) (by kernel_rfl) (fun _ _ _ h => h) (Or.inl ⟨by rfl, ?_⟩) (by assumption) ?_
  rotate_left
  · intro W1 h1; clear h1; go_simp; first | done | with_reducible rfl
  simp only [List.getElem_toArray, List.getElem_cons_succ, List.getElem_cons_zero, Act.put, List.setIfInBounds_toArray, List.set_cons_zero, List.set_cons_succ]
  refine wpAnyH_take (i := 43) (v := ?_) rfl (by kernel_rfl) (by kernel_rfl) (by kernel_rfl) (fun _ _ _ h => h) (Or.inl ⟨by rfl, ?_⟩) (by assumption) ?_
  rotate_left
  · intro W1 h1; clear h1; go_simp; first | done | with_reducible rfl
  simp only [List.getElem_toArray, List.getElem_cons_succ, List.getElem_cons_zero, Act.put, List.setIfInBounds_toArray, List.set_cons_zero, List.set_cons_succ]
  refine wpAnyH_done (by kernel_rfl) ?_ _
  refine NoPanic.normal ?_
  have HB := Bx.mk HA.out.below
  clear hS HA
  go_wp2_with fail
  go_ret
  exact ⟨rfl, HB.out⟩
end Go.Proofs.Ytimdaceidhdaeaa

namespace Go.Proofs.Ytimdaceidhdaeaa
open Go.RowKit Go.Proofs
theorem ints_in {w : World} {a : Option Addr} {len cap : Nat} {zs : List Int}
    (h : (a = none ∧ len = 0 ∧ cap = 0 ∧ zs = []) ∨ ∃ x, a = some x ∧ len ≤ cap ∧ cap ≤ maxLen ∧ zs.length = cap ∧ (∀ i, i < zs.length → w.cell? (x.add i) = some (.int .i64 (zs.getD i 0))) ∧ ∀ n ∈ zs, (Lit.int .i64 n).wf = true) :
    IntsAt w (.slice a len cap) (zs.take len) := by
  rcases h with ⟨rfl, rfl, rfl, rfl⟩ | ⟨x, rfl, hl, _, hz, hc, _⟩
  · exact .inl ⟨⟨_, _, rfl⟩, rfl⟩
  · by_cases h0 : len = 0
    · subst h0
      exact .inl ⟨⟨_, _, rfl⟩, by simp⟩
    · obtain ⟨b, off, spot⟩ := x
      have hspot : spot = none := by simpa [Addr.add] using World.cell?_spot (hc 0 (by omega))
      subst hspot
      have hlen : (zs.take len).length = len := by rw [List.length_take]; omega
      refine .inr ⟨b, off, cap, by rw [hlen], ?_, fun i hi => ?_⟩
      · exact World.block_lt_of_cell? w _ (hc 0 (by omega))
      · have h1 := hc i (by omega)
        rw [hlen] at hi
        have e : (zs.take len).getD i 0 = zs.getD i 0 := by simp [List.getD_eq_getElem?_getD, List.getElem?_take, hi]
        rw [e]
        rw [Addr.add_lit] at h1
        exact h1
theorem lw_Make {w : World} {v : Value} {l : List Int} (hv : IntsAt w v l) (W : World) (hB : Below w.heap.size w W) (most : Int) (h0 : 0 ≤ most) (h1 : most ≤ 1000) :
    Calls Try.prog 10 #[v, .int .i64 most] W fun r w' => r = .returned (.agg (makeP l most).cells.toArray) ∧ Below W.heap.size W w' := by
  refine law6_Make v l most W ?_ h0 h1
  rcases hv with h | ⟨b, o, cap, rfl, hb, hc⟩
  · exact .inl h
  · have hs := hB.size
    exact .inr ⟨b, o, cap, rfl, by omega, fun i hi => by rw [hB.cell (p := ⟨b, o + i, none⟩) hb]; exact hc i hi⟩
theorem makeP_ok (l : List Int) (most : Int) (h0 : 0 ≤ most) : (makeP l most).ok := (makeP_fitN l most h0).ok
end Go.Proofs.Ytimdaceidhdaeaa

namespace Go.Proofs.Ytimdaceidhdaeaa
/-! A yard that loses notes, in plain Lean. -/
structure LoI (p : Po) (u n : Nat) (s : Ya) : Prop where
  us : s.us = List.replicate u ⟨0, .none⟩
  le : n ≤ u
  way : ∃ L : List Nat, s.way = L.map (firstN p) ∧ L.Nodup ∧ (∀ j ∈ L, j < u) ∧ L.length = n
theorem lo_new (p : Po) (u : Nat) (h1 : 1 ≤ u) (hv : 0 ≤ p.ver) : LoI p u u (Ya.new p u).tick := by
  rw [tick_new p u h1 hv]
  exact ⟨rfl, Nat.le_refl _, List.range u, rfl, List.nodup_range, fun j hj => List.mem_range.1 hj, List.length_range⟩
theorem LoI.len {p : Po} {u n : Nat} {s : Ya} (h : LoI p u n s) : s.way.length = n := by
  obtain ⟨_, _, L, hw, _, _, hl⟩ := h
  rw [hw]; simpa using hl
theorem LoI.lose {p : Po} {u n : Nat} {s : Ya} (h : LoI p u n s) (i : Nat) (hi : i < n) : LoI p u (n - 1) (s.lose i) := by
  obtain ⟨hu, hle, L, hw, hn, hj, hl⟩ := h
  refine ⟨hu, by omega, L.eraseIdx i, ?_, hn.sublist (List.eraseIdx_sublist ..), fun j h => hj j (List.mem_of_mem_eraseIdx h), ?_⟩
  · show s.way.eraseIdx i = _
    rw [hw, List.eraseIdx_eq_take_drop_succ, List.eraseIdx_eq_take_drop_succ, List.map_append, List.map_take, List.map_drop]
  · rw [List.length_eraseIdx_of_lt (by omega), hl]
structure LoD (p : Po) (u n d : Nat) (s : Ya) : Prop where
  us : s.us.length = u
  way : ∃ (L : List Nat) (A : List No), s.way = L.map (firstN p) ++ A ∧ L.Nodup ∧ (∀ j ∈ L, j < u ∧ s.us.getD j ⟨0, .none⟩ = ⟨0, .none⟩) ∧ (∀ a ∈ A, a.ack = true) ∧ s.us.countP Uu.up + L.length = n ∧ d + 2 * L.length + A.length = 2 * n
theorem LoI.start {p : Po} {u n : Nat} {s : Ya} (h : LoI p u n s) : LoD p u n 0 s := by
  obtain ⟨hu, hle, L, hw, hn, hj, hl⟩ := h
  refine ⟨by rw [hu]; simp, L, [], by rw [hw]; simp, hn, fun j h => ⟨hj j h, ?_⟩, fun a h => (by cases h), ?_, by simp; omega⟩
  · rw [hu]; simp [List.getD_eq_getElem?_getD, hj j h]
  · rw [hu, List.countP_replicate]; simp [Uu.up, hl]
theorem LoD.bd {p : Po} {u n d : Nat} {s : Ya} (h : LoD p u n d s) : d + s.way.length ≤ 2 * n := by
  obtain ⟨_, L, A, hw, _, _, _, _, hd⟩ := h
  rw [hw]; simp; omega
theorem LoD.done {p : Po} {u n d : Nat} {s : Ya} (h : LoD p u n d s) (he : s.way = []) : d = 2 * n ∧ s.us.countP Uu.up = n := by
  obtain ⟨_, L, A, hw, _, _, _, hc, hd⟩ := h
  rw [he] at hw
  have hL : L.length = 0 := by have := congrArg List.length hw; simp at this; omega
  have hA : A.length = 0 := by have := congrArg List.length hw; simp at this; omega
  omega
theorem LoD.step {p : Po} {u n d : Nat} {s : Ya} (h : LoD p u n d s) (hp : p.ok) (hv : 0 ≤ p.ver) (hne : s.way ≠ []) : DelOk s 0 ∧ LoD p u n (d + 1) (s.deliver 0 false) := by
  obtain ⟨hu, L, A, hw, hn, hj, hA, hc, hd⟩ := h
  cases L with
  | nil =>
    cases A with
    | nil => exact absurd hw hne
    | cons a A =>
      have ha := hA a (List.mem_cons_self ..)
      have h0 : s.way.getD 0 No.zero = a := by rw [hw]; rfl
      refine ⟨⟨a, by rw [hw]; rfl, .inl ha⟩, ?_⟩
      have e : s.deliver 0 false = { s with h := s.h.heard a, way := s.way.eraseIdx 0 } := by
        unfold Ya.deliver
        simp only [h0, ha, if_true, Bool.false_eq_true, if_false]
      rw [e]
      refine ⟨hu, [], A, by rw [hw]; rfl, List.nodup_nil, fun j h => (by cases h), fun b hb => hA b (List.mem_cons_of_mem _ hb), hc, ?_⟩
      simp at hd ⊢; omega
  | cons j L =>
    have hjj := hj j (List.mem_cons_self ..)
    have h0 : s.way[0]? = some (firstN p j) := by rw [hw]; rfl
    refine ⟨delOk_first s p 0 j hp h0 (by omega), ?_⟩
    have hl : j < s.us.length := by omega
    rw [deliver_first s p 0 j false h0 hl, hjj.2, come_first _ _ _ rfl, if_pos (by show (-1 : Int) < p.ver; omega)]
    refine ⟨by simp [hu], L, A ++ [(⟨0, .some p⟩ : Uu).word j], ?_, (List.nodup_cons.1 hn).2, fun k hk => ?_, ?_, ?_, ?_⟩
    · show s.way.eraseIdx 0 ++ [(⟨0, .some p⟩ : Uu).word j] = _
      rw [hw]; simp
    · have hkj : j ≠ k := fun e => (List.nodup_cons.1 hn).1 (e ▸ hk)
      have := hj k (List.mem_cons_of_mem _ hk)
      refine ⟨this.1, ?_⟩
      show (s.us.set j _).getD k _ = _
      rw [List.getD_eq_getElem?_getD, List.getElem?_set_ne hkj, ← List.getD_eq_getElem?_getD]; exact this.2
    · intro a ha
      rcases List.mem_append.1 ha with h | h
      · exact hA a h
      · simp at h; rw [h]; rfl
    · show (s.us.set j _).countP Uu.up + L.length = n
      have e : s.us[j] = ⟨0, .none⟩ := by
        have := hjj.2
        rw [List.getD_eq_getElem?_getD, List.getElem?_eq_getElem hl] at this; simpa using this
      rw [List.countP_set hl, e]
      simp [Uu.up] at hc ⊢; omega
    · simp at hd ⊢; omega
theorem up_take (s : Ya) (i : Nat) (hi : i < s.us.length) : (s.us.take (i + 1)).countP Uu.up = (s.us.take i).countP Uu.up + (if (s.us.getD i ⟨0, .none⟩).up then 1 else 0) := by
  rw [List.take_add_one, List.countP_append, List.getElem?_eq_getElem hi, List.getD_eq_getElem?_getD, List.getElem?_eq_getElem hi]
  simp only [Option.toList, Option.getD, List.countP_cons, List.countP_nil]
  omega
end Go.Proofs.Ytimdaceidhdaeaa

namespace Go.Proofs.Ytimdaceidhdaeaa
open Go.RowKit Go.Proofs
structure LoC (p : Po) (u : Nat) : Prop where
  ok : p.ok
  v0 : 0 ≤ p.ver
  v1 : p.ver ≤ 30
  u1 : 1 ≤ u
  u2 : u ≤ 6
theorem lo_New {w W : World} {pb : Nat} {p : Po} {u : Nat} (h : LoC p u) (hB : Below w.heap.size w W) (hrow : W.heap[pb]? = some (.cells p.cells.toArray 33 (0, 0))) :
    Calls Try.prog 12 #[.agg p.cells.toArray, .int .i64 u] W fun r W' => ∃ yb, r = .returned (.tuple #[.pointer (some ⟨yb, 0, none⟩), I 0]) ∧ LawE w yb pb p (Ya.new p u) W' := lw_New h.ok u h.u1 (by have := h.u2; omega) hB hrow
def LoE (w : World) (yb pb : Nat) (p : Po) (u n : Nat) (W : World) : Prop := ∃ s, LawE w yb pb p s W ∧ LoI p u n s
theorem lo_Tick {w W : World} {yb pb : Nat} {p : Po} {u : Nat} (h : LoC p u) (hE : LawE w yb pb p (Ya.new p u) W) : Calls Try.prog 13 #[.pointer (some ⟨yb, 0, none⟩)] W fun r W' => r = .returned (I u) ∧ LoE w yb pb p u u W' := by
  have hn := next_new p u h.u1 h.v0
  have hu2 := h.u2
  have hI := lo_new p u h.u1 h.v0
  have := lw_Tick hE (pub_none _ rfl) (by rw [hn]; show (List.replicate u ((0 : Int), (-1 : Int))).length ≤ 16; simp; omega) (by rw [hn]; exact h.v0) (by rw [hn]; have := h.v1; show p.ver ≤ _; omega) (by show 0 ≤ _; omega)
  rw [hI.len] at this
  refine this.mono ?_
  rintro r W' ⟨rfl, hE⟩
  exact ⟨rfl, _, hE, hI⟩
theorem LoE.below {w W : World} {yb pb : Nat} {p : Po} {u n : Nat} (h : LoE w yb pb p u n W) : Below w.heap.size w W := by
  obtain ⟨s, hE, _⟩ := h
  exact hE.below
theorem LoE.le {w W : World} {yb pb : Nat} {p : Po} {u n : Nat} (h : LoE w yb pb p u n W) : n ≤ u := by
  obtain ⟨s, _, hI⟩ := h
  exact hI.le
theorem lo_Lose_in {w W : World} {yb pb : Nat} {p : Po} {u n : Nat} (h : LoC p u) (hE : LoE w yb pb p u n W) (k : Nat) (hk : k < n) : Calls Try.prog 17 #[.pointer (some ⟨yb, 0, none⟩), .int .i64 k] W fun r W' => r = .returned (.bool true) ∧ LoE w yb pb p u (n - 1) W' := by
  obtain ⟨s, hE, hI⟩ := hE
  have hl := hI.len
  have hle := hI.le
  have := h.u2
  refine (lw_Lose hE k (by omega) (by omega)).mono ?_
  rintro r W' ⟨rfl, hE⟩
  exact ⟨rfl, _, hE, hI.lose k hk⟩
theorem lo_Lose_out {w W : World} {yb pb : Nat} {p : Po} {u n : Nat} (hE : LoE w yb pb p u n W) (k : Int) (hk : k < 0 ∨ (n : Int) ≤ k) : Calls Try.prog 17 #[.pointer (some ⟨yb, 0, none⟩), .int .i64 k] W fun r W' => r = .returned (.bool false) ∧ LoE w yb pb p u n W' := by
  obtain ⟨s, hE, hI⟩ := hE
  have hl := hI.len
  refine (lw_Lose_out hE k (by omega)).mono ?_
  rintro r W' ⟨rfl, hE⟩
  exact ⟨rfl, _, hE, hI⟩
theorem lo_Notes {w W : World} {yb pb : Nat} {p : Po} {u n : Nat} (hE : LoE w yb pb p u n W) : Calls Try.prog 16 #[.pointer (some ⟨yb, 0, none⟩)] W fun r W' => r = .returned (I n) ∧ W' = W := by
  obtain ⟨s, hE, hI⟩ := hE
  have := lw_Notes hE
  rw [hI.len] at this
  exact this
def LoF (w : World) (yb pb : Nat) (p : Po) (u n d : Nat) (W : World) : Prop := ∃ s, LawE w yb pb p s W ∧ LoD p u n d s ∧ n ≤ u
def LoFi (w : World) (yb pb : Nat) (p : Po) (u n d : Nat) (W : World) : Prop := ∃ s, LawE w yb pb p s W ∧ LoD p u n d s ∧ n ≤ u ∧ s.way ≠ []
structure LoG (w : World) (yb pb : Nat) (p : Po) (u n d : Nat) (s : Ya) (W : World) : Prop where
  law : LawE w yb pb p s W
  way : s.way = []
  us : s.us.length = u
  up : s.us.countP Uu.up = n
  d : d = 2 * n
  le : n ≤ u
theorem LoE.start {w W : World} {yb pb : Nat} {p : Po} {u n : Nat} (h : LoE w yb pb p u n W) : LoF w yb pb p u n 0 W := by
  obtain ⟨s, hE, hI⟩ := h
  exact ⟨s, hE, hI.start, hI.le⟩
theorem LoF.ways {w W : World} {yb pb : Nat} {p : Po} {u n d : Nat} (h : LoF w yb pb p u n d W) : (LoFi w yb pb p u n d W ∧ d < 2 * n ∧ n ≤ u) ∨ ∃ s, LoG w yb pb p u n d s W := by
  obtain ⟨s, hE, hD, hle⟩ := h
  by_cases hw : s.way = []
  · have := hD.done hw
    exact .inr ⟨s, hE, hw, hD.us, this.2, this.1, hle⟩
  · have := hD.bd
    have := List.length_pos_iff.2 hw
    exact .inl ⟨⟨s, hE, hD, hle, hw⟩, by omega, hle⟩
theorem lo_Deliver_in {w W : World} {yb pb : Nat} {p : Po} {u n d : Nat} (h : LoC p u) (hE : LoFi w yb pb p u n d W) : Calls Try.prog 14 #[.pointer (some ⟨yb, 0, none⟩), .int .i64 0, .bool false] W fun r W' => r = .returned (.bool true) ∧ LoF w yb pb p u n (d + 1) W' := by
  obtain ⟨s, hE, hD, hle, hne⟩ := hE
  have hs := hD.step h.ok h.v0 hne
  have hb := hD.bd
  have := h.u2
  refine (lw_Deliver hE 0 false hs.1 (by omega) (by rw [hD.us]; omega)).mono ?_
  rintro r W' ⟨rfl, hE⟩
  exact ⟨rfl, _, hE, hs.2, hle⟩
theorem lo_Deliver_out {w W : World} {yb pb : Nat} {p : Po} {u n d : Nat} {s : Ya} (hE : LoG w yb pb p u n d s W) : Calls Try.prog 14 #[.pointer (some ⟨yb, 0, none⟩), .int .i64 0, .bool false] W fun r W' => r = .returned (.bool false) ∧ LoG w yb pb p u n d s W' := by
  refine (lw_Deliver_out hE.law 0 false (by rw [hE.way]; simp)).mono ?_
  rintro r W' ⟨rfl, h⟩
  exact ⟨rfl, h, hE.way, hE.us, hE.up, hE.d, hE.le⟩
theorem lo_Version {w W : World} {yb pb : Nat} {p : Po} {u n d : Nat} {s : Ya} (h : LoC p u) (hE : LoG w yb pb p u n d s W) (i : Nat) (hi : i < u) : Calls Try.prog 15 #[.pointer (some ⟨yb, 0, none⟩), .int .i64 i] W fun r W' => r = .returned (.tuple #[I (s.us.getD i ⟨0, .none⟩).low, .bool (s.us.getD i ⟨0, .none⟩).up]) ∧ LoG w yb pb p u n d s W' := by
  have := h.u2
  have hu := hE.us
  refine (lw_Version hE.law i (by omega) (by omega)).mono ?_
  rintro r W' ⟨rfl, m, rfl⟩
  exact ⟨rfl, hE.law.drewN m, hE.way, hE.us, hE.up, hE.d, hE.le⟩
/-- The units that are up, of the first k. -/
def upK (s : Ya) (k : Nat) : Nat := (s.us.take k).countP Uu.up
theorem upK_zero (s : Ya) : upK s 0 = 0 := by simp [upK]
theorem upK_le (s : Ya) (k : Nat) : upK s k ≤ k := by
  unfold upK
  exact Nat.le_trans List.countP_le_length (by rw [List.length_take]; omega)
theorem upK_up {w W : World} {yb pb : Nat} {p : Po} {u n d : Nat} {s : Ya} (hE : LoG w yb pb p u n d s W) (k : Nat) (hk : k < u) (h : (s.us.getD k ⟨0, .none⟩).up = true) : upK s (k + 1) = upK s k + 1 := by
  unfold upK
  rw [up_take s k (by rw [hE.us]; exact hk), if_pos h]
theorem upK_down {w W : World} {yb pb : Nat} {p : Po} {u n d : Nat} {s : Ya} (hE : LoG w yb pb p u n d s W) (k : Nat) (hk : k < u) (h : (s.us.getD k ⟨0, .none⟩).up = false) : upK s (k + 1) = upK s k := by
  unfold upK
  rw [up_take s k (by rw [hE.us]; exact hk), h]
  rfl
theorem upK_all {w W : World} {yb pb : Nat} {p : Po} {u n d : Nat} {s : Ya} (hE : LoG w yb pb p u n d s W) : upK s u = n := by
  unfold upK
  rw [List.take_of_length_le (by rw [hE.us]; exact Nat.le_refl _), hE.up]
theorem ints_cells {w : World} {a : Option Addr} {len cap : Nat} {zs : List Int}
    (h : (a = none ∧ len = 0 ∧ cap = 0 ∧ zs = []) ∨ ∃ x, a = some x ∧ len ≤ cap ∧ cap ≤ maxLen ∧ zs.length = cap ∧ (∀ i, i < zs.length → w.cell? (x.add i) = some (.int .i64 (zs.getD i 0))) ∧ ∀ n ∈ zs, (Lit.int .i64 n).wf = true) :
    ∀ k, k < len → ∃ b off, a = some ⟨b, off, none⟩ ∧ b < w.heap.size ∧ w.cell? ⟨b, off + k, none⟩ = some (I (zs.getD k 0)) := by
  intro k hk
  rcases h with ⟨_, rfl, _⟩ | ⟨x, rfl, hl, _, hz, hc, _⟩
  · omega
  · have h1 := hc k (by omega)
    obtain ⟨b, off, spot⟩ := x
    have hspot : spot = none := by simpa [Addr.add] using World.cell?_spot (hc 0 (by omega))
    subst hspot
    rw [Addr.add_lit] at h1
    exact ⟨b, off, rfl, World.block_lt_of_cell? w _ h1, h1⟩
end Go.Proofs.Ytimdaceidhdaeaa
