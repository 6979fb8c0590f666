/- Proved: lemmas that the law's proof stands on (LawB, LawC, LawTw). Conditions: as each states. -/
import Derived.Test.YtimdaceidhdaeaaLawTwice13

namespace Go.Proofs.Ytimdaceidhdaeaa
open Go.RowKit Go.Proofs
def pk : Po := Po.new 10 80 Ke.zero Ke.zero
def k0 : Ya := Ya.new pk 2
def k1 : Ya := k0.tick
def k2 : Ya := k1.deliver 0 false
def k3 : Ya := k2.deliver 0 false
def k4 : Ya := k3.deliver 0 false
def k5 : Ya := k4.lose 0
theorem pk_ok : pk.ok := Po.new_ok _ _ _ _
theorem pk_ver : pk.ver = 0 := rfl
theorem k1_eq : k1 = ⟨k0.h, List.replicate 2 ⟨0, .none⟩, (List.range 2).map (firstN pk)⟩ := tick_new pk 2 (by decide) (by decide)
theorem k2_eq : k2 = ⟨k0.h, [⟨0, .some pk⟩, ⟨0, .none⟩], [firstN pk 1, (⟨0, .some pk⟩ : Uu).word 0]⟩ := by
  unfold k2
  rw [k1_eq, deliver_first _ pk 0 0 false rfl (by decide)]
  rfl
theorem k3_eq : k3 = ⟨k0.h, [⟨0, .some pk⟩, ⟨0, .some pk⟩], [(⟨0, .some pk⟩ : Uu).word 0, (⟨0, .some pk⟩ : Uu).word 1]⟩ := by
  unfold k3
  rw [k2_eq, deliver_first _ pk 0 1 false rfl (by decide)]
  rfl
theorem k_del1 : DelOk k1 0 := by rw [k1_eq]; exact delOk_first _ pk 0 0 pk_ok rfl (by decide)
theorem k_del2 : DelOk k2 0 := by rw [k2_eq]; exact delOk_first _ pk 0 1 pk_ok rfl (by decide)
theorem k_del3 : DelOk k3 0 := by rw [k3_eq]; exact ⟨_, rfl, .inl rfl⟩
theorem k4_way : k4.way.length = 1 := by unfold k4; rw [k3_eq]; rfl
theorem k5_way : k5.way.length = 0 := by unfold k5 k4; rw [k3_eq]; rfl
theorem k5_p : k5.h.p = pk := by unfold k5 k4; rw [k3_eq]; rfl
theorem kn_New {w W : World} {pb : Nat} (hB : Below w.heap.size w W) (hrow : W.heap[pb]? = some (.cells pk.cells.toArray 33 (0, 0))) :
    Calls Try.prog 12 #[.agg pk.cells.toArray, .int .i64 2] W fun r W' => ∃ yb, r = .returned (.tuple #[.pointer (some ⟨yb, 0, none⟩), I 0]) ∧ LawE w yb pb pk k0 W' := lw_New pk_ok 2 (by decide) (by decide) hB hrow
theorem kn_Notes0 {w W : World} {yb pb : Nat} (h : LawE w yb pb pk k0 W) : Calls Try.prog 16 #[.pointer (some ⟨yb, 0, none⟩)] W fun r W' => r = .returned (I 0) ∧ W' = W := lw_Notes h
theorem kn_Tick {w W : World} {yb pb : Nat} (h : LawE w yb pb pk k0 W) : Calls Try.prog 13 #[.pointer (some ⟨yb, 0, none⟩)] W fun r W' => r = .returned (I 2) ∧ LawE w yb pb pk k1 W' := by
  have hn : k0.h.next = k0.h := next_new pk 2 (by decide) (by decide)
  have := lw_Tick h (pub_none _ rfl) (by rw [hn]; decide) (by rw [hn]; decide) (by rw [hn]; decide) (by decide)
  rw [show k0.tick = k1 from rfl, show k1.way.length = 2 by rw [k1_eq]; rfl] at this
  exact this
theorem kn_Deliver1 {w W : World} {yb pb : Nat} (h : LawE w yb pb pk k1 W) : Calls Try.prog 14 #[.pointer (some ⟨yb, 0, none⟩), .int .i64 0, .bool false] W fun r W' => r = .returned (.bool true) ∧ LawE w yb pb pk k2 W' :=
  lw_Deliver h 0 false k_del1 (by rw [k1_eq]; decide) (by rw [k1_eq]; decide)
theorem kn_Deliver2 {w W : World} {yb pb : Nat} (h : LawE w yb pb pk k2 W) : Calls Try.prog 14 #[.pointer (some ⟨yb, 0, none⟩), .int .i64 0, .bool false] W fun r W' => r = .returned (.bool true) ∧ LawE w yb pb pk k3 W' :=
  lw_Deliver h 0 false k_del2 (by rw [k2_eq]; decide) (by rw [k2_eq]; decide)
theorem kn_Deliver3 {w W : World} {yb pb : Nat} (h : LawE w yb pb pk k3 W) : Calls Try.prog 14 #[.pointer (some ⟨yb, 0, none⟩), .int .i64 0, .bool false] W fun r W' => r = .returned (.bool true) ∧ LawE w yb pb pk k4 W' :=
  lw_Deliver h 0 false k_del3 (by rw [k3_eq]; decide) (by rw [k3_eq]; decide)
theorem kn_Version {w W : World} {yb pb : Nat} (h : LawE w yb pb pk k3 W) : Calls Try.prog 15 #[.pointer (some ⟨yb, 0, none⟩), .int .i64 1] W fun r W' => r = .returned (.tuple #[I 0, .bool true]) ∧ LawE w yb pb pk k3 W' := by
  have := lw_Version h 1 (by rw [k3_eq]; decide) (by rw [k3_eq]; decide)
  refine Calls.mono (show Calls _ _ #[.pointer (some ⟨yb, 0, none⟩), .int .i64 1] _ _ from this) ?_
  rintro r W' ⟨rfl, n, rfl⟩
  exact ⟨by rw [k3_eq]; rfl, h.drewN n⟩
theorem kn_Notes3 {w W : World} {yb pb : Nat} (h : LawE w yb pb pk k3 W) : Calls Try.prog 16 #[.pointer (some ⟨yb, 0, none⟩)] W fun r W' => r = .returned (I 2) ∧ W' = W := by
  have := lw_Notes h
  rw [show k3.way.length = 2 by rw [k3_eq]; rfl] at this
  exact this
theorem kn_Lose {w W : World} {yb pb : Nat} (h : LawE w yb pb pk k4 W) : Calls Try.prog 17 #[.pointer (some ⟨yb, 0, none⟩), .int .i64 0] W fun r W' => r = .returned (.bool true) ∧ LawE w yb pb pk k5 W' :=
  lw_Lose h 0 (by rw [k4_way]; decide) (by rw [k4_way]; decide)
theorem kn_Lose2 {w W : World} {yb pb : Nat} (h : LawE w yb pb pk k5 W) : Calls Try.prog 17 #[.pointer (some ⟨yb, 0, none⟩), .int .i64 0] W fun r W' => r = .returned (.bool false) ∧ LawE w yb pb pk k5 W' :=
  lw_Lose_out h 0 (.inr (by rw [k5_way]; decide))
theorem kn_Pool {w W : World} {yb pb : Nat} (h : LawE w yb pb pk k5 W) : Calls Try.prog 26 #[.pointer (some ⟨yb, 0, none⟩)] W fun r W' => r = .returned (.agg pk.cells.toArray) ∧ LawE w yb pb pk k5 W' := by
  have := lw_Pool h
  rw [k5_p] at this
  exact this
theorem exec_eql {P : Program} {o : Oper} {a : Act} {w : World} (t : TypeId) (x y : Operand) (r : TypeId) (ho : o.op = .binOp .eql t x y r) (xs ys : Array Value) (hx : a.eval x = .agg xs) (hy : a.eval y = .agg ys) (hg : P.eqGuardType P.depth t = false) (b : Bool)
    (hr : (Op.equalIn 10000 t (.agg xs) (.agg ys)).run P w = .ok b w) : (execOp a.eval o).run P w = .ok (.value (.bool b)) w := by
  unfold execOp
  simp only [ho, hx, hy, Sem.run_bind, eqGuard, run_eql_struct]
  simp [hg]
  rw [hr]
  rfl
structure SKn (pb : Nat) (W : World) : Prop where
  row : W.heap[pb]? = some (.cells pk.cells.toArray 33 (0, 0))
set_option maxHeartbeats 4000000 in
set_option maxRecDepth 100000 in
theorem law12_known (w : World) : Calls Try.prog 9 #[] w fun r w' => r = .returned (.bool true) ∧ Below w.heap.size w w' := by
  have hz := fun w => zero33 w
  have HN : Bx (Calls Try.prog 29 #[.int .i64 10, .int .i64 80, .agg #[.int .u64 0, .int .u64 0], .agg #[.int .u64 0, .int .u64 0]] w fun r w' => r = .returned (.tuple #[.agg pk.cells.toArray, I 0]) ∧ Below w.heap.size w w') := ⟨ref6_New 10 80 Ke.zero Ke.zero w (by decide) (by decide) (by decide) (by decide)⟩
  have HL := Bx.mk (Po.cells_len _ pk_ok)
  have HI := Bx.mk (size33s _ pk_ok)
  have HI2 := Bx.mk (size33 _ pk_ok)
  have HO := Bx.mk (Po.one pk)
  go_enter Try.func9, Try.ntmps9
  go_upto_region 9 with (first
    | (go_at_call 29; refine HN.out.mono ?_; rintro r w1 ⟨rfl, hB1⟩
       have HT := Bx.mk (there_of_block (heap_alloc_new w1 (.cells Po.zero.cells.toArray 33)) 0 pk.cells.toArray.size (by rw [List.size_toArray, HL.out, List.size_toArray, Po.cells_len _ Po.zero_ok]; decide))
       have HR := Bx.mk (row_stored (heap_alloc_new w1 (.cells Po.zero.cells.toArray 33)) (vs := pk.cells) (by rw [HL.out, List.size_toArray, Po.cells_len _ Po.zero_ok]))
       have HB := Bx.mk (below_setCells (hB1.alloc hB1.size (.cells Po.zero.cells.toArray 33)) hB1.size 0 pk.cells)
       clear hB1)
    | (refine wpList_store_mid rfl 33 _ _ rfl w1.heap.size 0 _ rfl rfl HT.out HI.out HO.out ?_
       simp only [List.toList_toArray]
       generalize (w1.alloc (.cells Po.zero.cells.toArray 33)).setCells w1.heap.size 0 pk.cells = w2 at HR HB ⊢
       generalize w1.heap.size = pb at HR ⊢
       have HRg := Bx.mk (pool_range HR.out))
    | (refine wpList_load_mid rfl 33 _ rfl pb 0 rfl pk.cells _ HRg.out Try.underlying33 rfl HI2.out ?_)
    | (go_at_call 12; refine (kn_New HB.out HR.out).mono ?_; rintro r w3 ⟨yb, rfl, hE⟩; have HE := Bx.mk hE; clear hE)
    | (go_at_call 16; refine (kn_Notes0 HE.out).mono ?_; rintro r w4 ⟨rfl, rfl⟩)
    | (go_at_call 13; refine (kn_Tick HE.out).mono ?_; rintro r w4 ⟨rfl, hE⟩; clear HE; have HE1 := Bx.mk hE; clear hE)
    | (go_at_call 14; refine (kn_Deliver1 HE1.out).mono ?_; rintro r w5 ⟨rfl, hE⟩; clear HE1; have HE2 := Bx.mk hE; clear hE)
    | (go_at_call 14; refine (kn_Deliver2 HE2.out).mono ?_; rintro r w6 ⟨rfl, hE⟩; clear HE2; have HE3 := Bx.mk hE; clear hE)
    | (go_at_call 15; refine (kn_Version HE3.out).mono ?_; rintro r w7 ⟨rfl, hE⟩; clear HE3; have HE4 := Bx.mk hE; clear hE))
  clear HN HL HI HO HT HB HR HRg
  refine wp_region_noPanic ?_
  refine wp_region_held_drew (S := SKn pb) (by kernel_rfl) ⟨HE4.out.drew.row⟩ ?_
  intro hS
  have HA := Bx.mk HE4.out.drew
  clear HE4
  generalize w7.drew = X at hS HA ⊢
  refine wpAnyH_take (i := 0) (v := ?_) rfl (by kernel_rfl) (by kernel_rfl) (by kernel_rfl) (fun _ _ _ h => h) (Or.inl ⟨by rfl, ?_⟩) (by assumption) ?_
  rotate_left
  · intro W1 h1; clear h1; go_simp; first | done | with_reducible rfl
  simp only [List.getElem_toArray, List.getElem_cons_succ, List.getElem_cons_zero, Act.put, List.setIfInBounds_toArray, List.set_cons_zero, List.set_cons_succ]
  refine wpAnyH_take (i := 1) (v := ?_) rfl (by kernel_rfl) (by kernel_rfl) (by kernel_rfl) (fun _ _ _ h => h) (Or.inl ⟨by rfl, ?_⟩) (by assumption) ?_
  rotate_left
  · intro W1 h1; clear h1; go_simp; first | done | with_reducible rfl
  simp only [List.getElem_toArray, List.getElem_cons_succ, List.getElem_cons_zero, Act.put, List.setIfInBounds_toArray, List.set_cons_zero, List.set_cons_succ]
  refine wpAnyH_take (i := 2) (v := ?_) rfl (by kernel_rfl) (by kernel_rfl) (by kernel_rfl) (fun _ _ _ h => h) (Or.inl ⟨by rfl, ?_⟩) (by assumption) ?_
  rotate_left
  · intro W1 h1; clear h1; go_simp; first | done | with_reducible rfl
  simp only [List.getElem_toArray, List.getElem_cons_succ, List.getElem_cons_zero, Act.put, List.setIfInBounds_toArray, List.set_cons_zero, List.set_cons_succ]
  refine wpAnyH_take (i := 3) (v := ?_) rfl (by kernel_rfl) (by kernel_rfl) (by kernel_rfl) (fun _ _ _ h => h) (Or.inl ⟨by rfl, ?_⟩) (by assumption) ?_
  rotate_left
  · intro W1 h1; clear h1; go_simp; first | done | with_reducible rfl
  simp only [List.getElem_toArray, List.getElem_cons_succ, List.getElem_cons_zero, Act.put, List.setIfInBounds_toArray, List.set_cons_zero, List.set_cons_succ]
  refine wpAnyH_take (i := 4) (v := ?_) rfl (by kernel_rfl) (by kernel_rfl) (by kernel_rfl) (fun _ _ _ h => h) (Or.inl ⟨by rfl, ?_⟩) (by assumption) ?_
  rotate_left
  · intro W1 h1; clear h1; go_simp; first | done | with_reducible rfl
  simp only [List.getElem_toArray, List.getElem_cons_succ, List.getElem_cons_zero, Act.put, List.setIfInBounds_toArray, List.set_cons_zero, List.set_cons_succ]
  refine wpAnyH_take (i := 5) (v := ?_) rfl (by kernel_rfl) (by kernel_rfl) (by kernel_rfl) (fun _ _ _ h => h) (Or.inl ⟨by rfl, ?_⟩) (by assumption) ?_
  rotate_left
  · intro W1 h1; clear h1; go_simp; first | done | with_reducible rfl
  simp only [List.getElem_toArray, List.getElem_cons_succ, List.getElem_cons_zero, Act.put, List.setIfInBounds_toArray, List.set_cons_zero, List.set_cons_succ]
  refine wpAnyH_take (i := 6) (v := ?_) rfl (by kernel_rfl) (by kernel_rfl) (by kernel_rfl) (fun _ _ _ h => h) (Or.inl ⟨by rfl, ?_⟩) (by assumption) ?_
  rotate_left
  · intro W1 h1; clear h1; go_simp; first | done | with_reducible rfl
  simp only [List.getElem_toArray, List.getElem_cons_succ, List.getElem_cons_zero, Act.put, List.setIfInBounds_toArray, List.set_cons_zero, List.set_cons_succ]
  refine wpAnyH_take (i := 7) (v := ?_) rfl (by kernel_rfl) (by kernel_rfl) (by kernel_rfl) (fun _ _ _ h => h) (Or.inl ⟨by rfl, ?_⟩) (by assumption) ?_
  rotate_left
  · intro W1 h1; clear h1; go_simp; first | done | with_reducible rfl
  simp only [List.getElem_toArray, List.getElem_cons_succ, List.getElem_cons_zero, Act.put, List.setIfInBounds_toArray, List.set_cons_zero, List.set_cons_succ]
  refine wpAnyH_take (i := 8) (v := ?_) rfl (by kernel_rfl) (by kernel_rfl) (by kernel_rfl) (fun _ _ _ h => h) (Or.inl ⟨by rfl, ?_⟩) (by assumption) ?_
  rotate_left
  · intro W1 h1; clear h1; go_simp; first | done | with_reducible rfl
  simp only [List.getElem_toArray, List.getElem_cons_succ, List.getElem_cons_zero, Act.put, List.setIfInBounds_toArray, List.set_cons_zero, List.set_cons_succ]
  refine wpAnyH_take (i := 9) (v := ?_) rfl (by kernel_rfl) (by kernel_rfl) (by kernel_rfl) (fun _ _ _ h => h) (Or.inl ⟨by rfl, ?_⟩) (by assumption) ?_
  rotate_left
  · intro W1 h1; clear h1; go_simp; first | done | with_reducible rfl
  simp only [List.getElem_toArray, List.getElem_cons_succ, List.getElem_cons_zero, Act.put, List.setIfInBounds_toArray, List.set_cons_zero, List.set_cons_succ]
  refine wpAnyH_take (i := 10) (v := ?_) rfl (by kernel_rfl) (by kernel_rfl) (by kernel_rfl) (fun _ _ _ h => h) (Or.inl ⟨by rfl, ?_⟩) (by assumption) ?_
  rotate_left
  · intro W1 h1; clear h1; go_simp; first | done | with_reducible rfl
  simp only [List.getElem_toArray, List.getElem_cons_succ, List.getElem_cons_zero, Act.put, List.setIfInBounds_toArray, List.set_cons_zero, List.set_cons_succ]
  refine wpAnyH_take (i := 11) (v := ?_) rfl (by kernel_rfl) (by kernel_rfl) (by kernel_rfl) (fun _ _ _ h => h) (Or.inl ⟨by rfl, ?_⟩) (by assumption) ?_
  rotate_left
  · intro W1 h1; clear h1; go_simp; first | done | with_reducible rfl
  simp only [List.getElem_toArray, List.getElem_cons_succ, List.getElem_cons_zero, Act.put, List.setIfInBounds_toArray, List.set_cons_zero, List.set_cons_succ]
  refine wpAnyH_take (i := 12) (v := ?_) rfl (by kernel_rfl) (by kernel_rfl) (by kernel_rfl) (fun _ _ _ h => h) (Or.inl ⟨by rfl, ?_⟩) (by assumption) ?_
  rotate_left
  · intro W1 h1; clear h1; go_simp; first | done | with_reducible rfl
  simp only [List.getElem_toArray, List.getElem_cons_succ, List.getElem_cons_zero, Act.put, List.setIfInBounds_toArray, List.set_cons_zero, List.set_cons_succ]
  refine wpAnyH_take (i := 13) (v := ?_) rfl (by kernel_rfl) (by kernel_rfl) (by kernel_rfl) (fun _ _ _ h => h) (Or.inl ⟨by rfl, ?_⟩) (by assumption) ?_
  rotate_left
  · intro W1 h1; clear h1; go_simp; first | done | with_reducible rfl
  simp only [List.getElem_toArray, List.getElem_cons_succ, List.getElem_cons_zero, Act.put, List.setIfInBounds_toArray, List.set_cons_zero, List.set_cons_succ]
  refine wpAnyH_ready (rs := [14]) (by kernel_rfl) (by simp) ?_
  refine AllReadyH.cons rfl (fun K hK => ?_) AllReadyH.nil
  clear hS
  go_simp
  refine (kn_Notes3 HA.out).mono ?_
  rintro r W ⟨rfl, rfl⟩
  have HA2 := Bx.mk HA.out
  refine hK.out _ _ ⟨HA2.out.row⟩ (fun hS => ?_)
  clear hK K HA
  try simp only [List.getElem_toArray, List.getElem_cons_succ, List.getElem_cons_zero, Act.put, List.setIfInBounds_toArray, List.set_cons_zero, List.set_cons_succ]
  have HA := HA2
  clear HA2
  refine wpAnyH_take (i := 15) (v := ?_) rfl (by kernel_rfl) (by kernel_rfl) (by kernel_rfl) (fun _ _ _ h => h) (Or.inl ⟨by rfl, ?_⟩) (by assumption) ?_
  rotate_left
  · intro W1 h1; clear h1; go_simp; first | done | with_reducible rfl
  simp only [List.getElem_toArray, List.getElem_cons_succ, List.getElem_cons_zero, Act.put, List.setIfInBounds_toArray, List.set_cons_zero, List.set_cons_succ]
  refine wpAnyH_take (i := 16) (v := ?_) rfl (by kernel_rfl) (by kernel_rfl) (by kernel_rfl) (fun _ _ _ h => h) (Or.inl ⟨by rfl, ?_⟩) (by assumption) ?_
  rotate_left
  · intro W1 h1; clear h1; go_simp; first | done | with_reducible rfl
  simp only [List.getElem_toArray, List.getElem_cons_succ, List.getElem_cons_zero, Act.put, List.setIfInBounds_toArray, List.set_cons_zero, List.set_cons_succ]
  refine wpAnyH_take (i := 17) (v := ?_) rfl (by kernel_rfl) (by kernel_rfl) (by kernel_rfl) (fun _ _ _ h => h) (Or.inl ⟨by rfl, ?_⟩) (by assumption) ?_
  rotate_left
  · intro W1 h1; clear h1; go_simp; first | done | with_reducible rfl
  simp only [List.getElem_toArray, List.getElem_cons_succ, List.getElem_cons_zero, Act.put, List.setIfInBounds_toArray, List.set_cons_zero, List.set_cons_succ]
  refine wpAnyH_take (i := 18) (v := ?_) rfl (by kernel_rfl) (by kernel_rfl) (by kernel_rfl) (fun _ _ _ h => h) (Or.inl ⟨by rfl, ?_⟩) (by assumption) ?_
  rotate_left
  · intro W1 h1; clear h1; go_simp; first | done | with_reducible rfl
  simp only [List.getElem_toArray, List.getElem_cons_succ, List.getElem_cons_zero, Act.put, List.setIfInBounds_toArray, List.set_cons_zero, List.set_cons_succ]
  refine wpAnyH_take (i := 19) (v := ?_) rfl (by kernel_rfl) (by kernel_rfl) (by kernel_rfl) (fun _ _ _ h => h) (Or.inl ⟨by rfl, ?_⟩) (by assumption) ?_
  rotate_left
  · intro W1 h1; clear h1; go_simp; first | done | with_reducible rfl
  simp only [List.getElem_toArray, List.getElem_cons_succ, List.getElem_cons_zero, Act.put, List.setIfInBounds_toArray, List.set_cons_zero, List.set_cons_succ]
  refine wpAnyH_take (i := 20) (v := ?_) rfl (by kernel_rfl) (by kernel_rfl) (by kernel_rfl) (fun _ _ _ h => h) (Or.inl ⟨by rfl, ?_⟩) (by assumption) ?_
  rotate_left
  · intro W1 h1; clear h1; go_simp; first | done | with_reducible rfl
  simp only [List.getElem_toArray, List.getElem_cons_succ, List.getElem_cons_zero, Act.put, List.setIfInBounds_toArray, List.set_cons_zero, List.set_cons_succ]
  refine wpAnyH_take (i := 21) (v := ?_) rfl (by kernel_rfl) (by kernel_rfl) (by kernel_rfl) (fun _ _ _ h => h) (Or.inl ⟨by rfl, ?_⟩) (by assumption) ?_
  rotate_left
  · intro W1 h1; clear h1; go_simp; first | done | with_reducible rfl
  simp only [List.getElem_toArray, List.getElem_cons_succ, List.getElem_cons_zero, Act.put, List.setIfInBounds_toArray, List.set_cons_zero, List.set_cons_succ]
  refine wpAnyH_take (i := 22) (v := ?_) rfl (by kernel_rfl) (by kernel_rfl) (by kernel_rfl) (fun _ _ _ h => h) (Or.inl ⟨by rfl, ?_⟩) (by assumption) ?_
  rotate_left
  · intro W1 h1; clear h1; go_simp; first | done | with_reducible rfl
  simp only [List.getElem_toArray, List.getElem_cons_succ, List.getElem_cons_zero, Act.put, List.setIfInBounds_toArray, List.set_cons_zero, List.set_cons_succ]
  refine wpAnyH_take (i := 23) (v := ?_) rfl (by kernel_rfl) (by kernel_rfl) (by kernel_rfl) (fun _ _ _ h => h) (Or.inl ⟨by rfl, ?_⟩) (by assumption) ?_
  rotate_left
  · intro W1 h1; clear h1; go_simp; first | done | with_reducible rfl
  simp only [List.getElem_toArray, List.getElem_cons_succ, List.getElem_cons_zero, Act.put, List.setIfInBounds_toArray, List.set_cons_zero, List.set_cons_succ]
  refine wpAnyH_take (i := 24) (v := ?_) rfl (by kernel_rfl) (by kernel_rfl) (by kernel_rfl) (fun _ _ _ h => h) (Or.inl ⟨by rfl, ?_⟩) (by assumption) ?_
  rotate_left
  · intro W1 h1; clear h1; go_simp; first | done | with_reducible rfl
  simp only [List.getElem_toArray, List.getElem_cons_succ, List.getElem_cons_zero, Act.put, List.setIfInBounds_toArray, List.set_cons_zero, List.set_cons_succ]
  refine wpAnyH_take (i := 25) (v := ?_) rfl (by kernel_rfl) (by kernel_rfl) (by kernel_rfl) (fun _ _ _ h => h) (Or.inl ⟨by rfl, ?_⟩) (by assumption) ?_
  rotate_left
  · intro W1 h1; clear h1; go_simp; first | done | with_reducible rfl
  simp only [List.getElem_toArray, List.getElem_cons_succ, List.getElem_cons_zero, Act.put, List.setIfInBounds_toArray, List.set_cons_zero, List.set_cons_succ]
  refine wpAnyH_ready (rs := [26]) (by kernel_rfl) (by simp) ?_
  refine AllReadyH.cons rfl (fun K hK => ?_) AllReadyH.nil
  clear hS
  go_simp
  refine (kn_Deliver3 HA.out).mono ?_
  rintro r W ⟨rfl, hE⟩
  have HA2 := Bx.mk hE
  refine hK.out _ _ ⟨HA2.out.row⟩ (fun hS => ?_)
  clear hK K HA
  try simp only [List.getElem_toArray, List.getElem_cons_succ, List.getElem_cons_zero, Act.put, List.setIfInBounds_toArray, List.set_cons_zero, List.set_cons_succ]
  have HA := HA2
  clear HA2
  refine wpAnyH_take (i := 27) (v := ?_) rfl (by kernel_rfl) (by kernel_rfl) (by kernel_rfl) (fun _ _ _ h => h) (Or.inl ⟨by rfl, ?_⟩) (by assumption) ?_
  rotate_left
  · intro W1 h1; clear h1; go_simp; first | done | with_reducible rfl
  simp only [List.getElem_toArray, List.getElem_cons_succ, List.getElem_cons_zero, Act.put, List.setIfInBounds_toArray, List.set_cons_zero, List.set_cons_succ]
  refine wpAnyH_take (i := 28) (v := ?_) rfl (by kernel_rfl) (by kernel_rfl) (by kernel_rfl) (fun _ _ _ h => h) (Or.inl ⟨by rfl, ?_⟩) (by assumption) ?_
  rotate_left
  · intro W1 h1; clear h1; go_simp; first | done | with_reducible rfl
  simp only [List.getElem_toArray, List.getElem_cons_succ, List.getElem_cons_zero, Act.put, List.setIfInBounds_toArray, List.set_cons_zero, List.set_cons_succ]
  refine wpAnyH_take (i := 29) (v := ?_) rfl (by kernel_rfl) (by kernel_rfl) (by kernel_rfl) (fun _ _ _ h => h) (Or.inl ⟨by rfl, ?_⟩) (by assumption) ?_
  rotate_left
  · intro W1 h1; clear h1; go_simp; first | done | with_reducible rfl
  simp only [List.getElem_toArray, List.getElem_cons_succ, List.getElem_cons_zero, Act.put, List.setIfInBounds_toArray, List.set_cons_zero, List.set_cons_succ]
  refine wpAnyH_ready (rs := [30]) (by kernel_rfl) (by simp) ?_
  refine AllReadyH.cons rfl (fun K hK => ?_) AllReadyH.nil
  clear hS
  go_simp
  refine (kn_Lose HA.out).mono ?_
  rintro r W ⟨rfl, hE⟩
  have HA2 := Bx.mk hE
  refine hK.out _ _ ⟨HA2.out.row⟩ (fun hS => ?_)
  clear hK K HA
  try simp only [List.getElem_toArray, List.getElem_cons_succ, List.getElem_cons_zero, Act.put, List.setIfInBounds_toArray, List.set_cons_zero, List.set_cons_succ]
  have HA := HA2
  clear HA2
  refine wpAnyH_take (i := 31) (v := ?_) rfl (by kernel_rfl) (by kernel_rfl) (by kernel_rfl) (fun _ _ _ h => h) (Or.inl ⟨by rfl, ?_⟩) (by assumption) ?_
  rotate_left
  · intro W1 h1; clear h1; go_simp; first | done | with_reducible rfl
  simp only [List.getElem_toArray, List.getElem_cons_succ, List.getElem_cons_zero, Act.put, List.setIfInBounds_toArray, List.set_cons_zero, List.set_cons_succ]
  refine wpAnyH_take (i := 32) (v := ?_) rfl (by kernel_rfl) (by kernel_rfl) (by kernel_rfl) (fun _ _ _ h => h) (Or.inl ⟨by rfl, ?_⟩) (by assumption) ?_
  rotate_left
  · intro W1 h1; clear h1; go_simp; first | done | with_reducible rfl
  simp only [List.getElem_toArray, List.getElem_cons_succ, List.getElem_cons_zero, Act.put, List.setIfInBounds_toArray, List.set_cons_zero, List.set_cons_succ]
  refine wpAnyH_take (i := 33) (v := ?_) rfl (by kernel_rfl) (by kernel_rfl) (by kernel_rfl) (fun _ _ _ h => h) (Or.inl ⟨by rfl, ?_⟩) (by assumption) ?_
  rotate_left
  · intro W1 h1; clear h1; go_simp; first | done | with_reducible rfl
  simp only [List.getElem_toArray, List.getElem_cons_succ, List.getElem_cons_zero, Act.put, List.setIfInBounds_toArray, List.set_cons_zero, List.set_cons_succ]
  refine wpAnyH_ready (rs := [34]) (by kernel_rfl) (by simp) ?_
  refine AllReadyH.cons rfl (fun K hK => ?_) AllReadyH.nil
  clear hS
  go_simp
  refine (kn_Lose2 HA.out).mono ?_
  rintro r W ⟨rfl, hE⟩
  have HA2 := Bx.mk hE
  refine hK.out _ _ ⟨HA2.out.row⟩ (fun hS => ?_)
  clear hK K HA
  try simp only [List.getElem_toArray, List.getElem_cons_succ, List.getElem_cons_zero, Act.put, List.setIfInBounds_toArray, List.set_cons_zero, List.set_cons_succ]
  have HA := HA2
  clear HA2
  refine wpAnyH_take (i := 35) (v := ?_) rfl (by kernel_rfl) (by kernel_rfl) (by kernel_rfl) (fun _ _ _ h => h) (Or.inl ⟨by rfl, ?_⟩) (by assumption) ?_
  rotate_left
  · intro W1 h1; clear h1; go_simp; first | done | with_reducible rfl
  simp only [List.getElem_toArray, List.getElem_cons_succ, List.getElem_cons_zero, Act.put, List.setIfInBounds_toArray, List.set_cons_zero, List.set_cons_succ]
  refine wpAnyH_take (i := 36) (v := ?_) rfl (by kernel_rfl) (by kernel_rfl) (by kernel_rfl) (fun _ _ _ h => h) (Or.inl ⟨by rfl, ?_⟩) (by assumption) ?_
  rotate_left
  · intro W1 h1; clear h1; go_simp; first | done | with_reducible rfl
  simp only [List.getElem_toArray, List.getElem_cons_succ, List.getElem_cons_zero, Act.put, List.setIfInBounds_toArray, List.set_cons_zero, List.set_cons_succ]
  refine wpAnyH_take (i := 37) (v := ?_) rfl (by kernel_rfl) (by kernel_rfl) (by kernel_rfl) (fun _ _ _ h => h) (Or.inl ⟨by rfl, ?_⟩) (by assumption) ?_
  rotate_left
  · intro W1 h1; clear h1; go_simp; first | done | with_reducible rfl
  simp only [List.getElem_toArray, List.getElem_cons_succ, List.getElem_cons_zero, Act.put, List.setIfInBounds_toArray, List.set_cons_zero, List.set_cons_succ]
  refine wpAnyH_take (i := 38) (v := ?_) rfl (by kernel_rfl) (by kernel_rfl) (by kernel_rfl) (fun _ _ _ h => h) (Or.inl ⟨by rfl, ?_⟩) (by assumption) ?_
  rotate_left
  · intro W1 h1; clear h1; go_simp; first | done | with_reducible rfl
  simp only [List.getElem_toArray, List.getElem_cons_succ, List.getElem_cons_zero, Act.put, List.setIfInBounds_toArray, List.set_cons_zero, List.set_cons_succ]
  refine wpAnyH_take (i := 40) (v := .agg pk.cells.toArray) rfl (by kernel_rfl) (by kernel_rfl) (by kernel_rfl) (fun _ _ _ h => h) (yieldsIf_load_mid (by rfl) 33 _ rfl pb 0 rfl pk.cells _ (fun W h => pool_range h.row) Try.underlying33 rfl HI2.out) (by assumption) ?_
  simp only [List.getElem_toArray, List.getElem_cons_succ, List.getElem_cons_zero, Act.put, List.setIfInBounds_toArray, List.set_cons_zero, List.set_cons_succ]
  refine wpAnyH_ready (rs := [39]) (by kernel_rfl) (by simp) ?_
  refine AllReadyH.cons rfl (fun K hK => ?_) AllReadyH.nil
  clear hS
  go_simp
  refine (kn_Pool HA.out).mono ?_
  rintro r W ⟨rfl, hE⟩
  have HA2 := Bx.mk hE
  refine hK.out _ _ ⟨HA2.out.row⟩ (fun hS => ?_)
  clear hK K HA
  try simp only [List.getElem_toArray, List.getElem_cons_succ, List.getElem_cons_zero, Act.put, List.setIfInBounds_toArray, List.set_cons_zero, List.set_cons_succ]
  have HA := HA2
  clear HA2
  refine wpAnyH_take (i := 41) (v := .bool true) rfl (by kernel_rfl) (by kernel_rfl) (by kernel_rfl) (fun _ _ _ h => h) (Or.inl ⟨by rfl, fun W1 _ => exec_eql _ _ _ _ rfl pk.cells.toArray pk.cells.toArray rfl rfl (by kernel_rfl) true (eq_pool W1 pk pk_ok)⟩) (by assumption) ?_
  try simp only [List.getElem_toArray, List.getElem_cons_succ, List.getElem_cons_zero, Act.put, List.setIfInBounds_toArray, List.set_cons_zero, List.set_cons_succ]
  refine wpAnyH_take (i := 42) (v := ?_) rfl (by kernel_rfl) (by kernel_rfl) (by kernel_rfl) (fun _ _ _ h => h) (Or.inl ⟨by rfl, ?_⟩) (by assumption) ?_
  rotate_left
  · intro W1 h1; clear h1; go_simp; first | done | with_reducible rfl
  simp only [List.getElem_toArray, List.getElem_cons_succ, List.getElem_cons_zero, Act.put, List.setIfInBounds_toArray, List.set_cons_zero, List.set_cons_succ]
  refine wpAnyH_take (i := 43) (v := ?_) rfl (by kernel_rfl) (by kernel_rfl) (by kernel_rfl) (fun _ _ _ h => h) (Or.inl ⟨by rfl, ?_⟩) (by assumption) ?_
  rotate_left
  · intro W1 h1; clear h1; go_simp; first | done | with_reducible rfl
  simp only [List.getElem_toArray, List.getElem_cons_succ, List.getElem_cons_zero, Act.put, List.setIfInBounds_toArray, List.set_cons_zero, List.set_cons_succ]
  refine wpAnyH_done (by kernel_rfl) ?_ _
  refine NoPanic.normal ?_
  have HB := Bx.mk HA.out.below
  clear hS HA
  go_wp2_with fail
  go_ret
  exact ⟨rfl, HB.out⟩
end Go.Proofs.Ytimdaceidhdaeaa

namespace Go.Proofs.Ytimdaceidhdaeaa
open Go.RowKit Go.Proofs
theorem ints_in {w : World} {a : Option Addr} {len cap : Nat} {zs : List Int}
    (h : (a = none ∧ len = 0 ∧ cap = 0 ∧ zs = []) ∨ ∃ x, a = some x ∧ len ≤ cap ∧ cap ≤ maxLen ∧ zs.length = cap ∧ (∀ i, i < zs.length → w.cell? (x.add i) = some (.int .i64 (zs.getD i 0))) ∧ ∀ n ∈ zs, (Lit.int .i64 n).wf = true) :
    IntsAt w (.slice a len cap) (zs.take len) := by
  rcases h with ⟨rfl, rfl, rfl, rfl⟩ | ⟨x, rfl, hl, _, hz, hc, _⟩
  · exact .inl ⟨⟨_, _, rfl⟩, rfl⟩
  · by_cases h0 : len = 0
    · subst h0
      exact .inl ⟨⟨_, _, rfl⟩, by simp⟩
    · obtain ⟨b, off, spot⟩ := x
      have hspot : spot = none := by simpa [Addr.add] using World.cell?_spot (hc 0 (by omega))
      subst hspot
      have hlen : (zs.take len).length = len := by rw [List.length_take]; omega
      refine .inr ⟨b, off, cap, by rw [hlen], ?_, fun i hi => ?_⟩
      · exact World.block_lt_of_cell? w _ (hc 0 (by omega))
      · have h1 := hc i (by omega)
        rw [hlen] at hi
        have e : (zs.take len).getD i 0 = zs.getD i 0 := by simp [List.getD_eq_getElem?_getD, List.getElem?_take, hi]
        rw [e]
        rw [Addr.add_lit] at h1
        exact h1
theorem lw_Make {w : World} {v : Value} {l : List Int} (hv : IntsAt w v l) (W : World) (hB : Below w.heap.size w W) (most : Int) (h0 : 0 ≤ most) (h1 : most ≤ 1000) :
    Calls Try.prog 10 #[v, .int .i64 most] W fun r w' => r = .returned (.agg (makeP l most).cells.toArray) ∧ Below W.heap.size W w' := by
  refine law6_Make v l most W ?_ h0 h1
  rcases hv with h | ⟨b, o, cap, rfl, hb, hc⟩
  · exact .inl h
  · have hs := hB.size
    exact .inr ⟨b, o, cap, rfl, by omega, fun i hi => by rw [hB.cell (p := ⟨b, o + i, none⟩) hb]; exact hc i hi⟩
theorem makeP_ok (l : List Int) (most : Int) (h0 : 0 ≤ most) : (makeP l most).ok := (makeP_fitN l most h0).ok
end Go.Proofs.Ytimdaceidhdaeaa

namespace Go.Proofs.Ytimdaceidhdaeaa
open Go.RowKit Go.Proofs
def t1 (p : Po) (u i : Nat) : Ya := (twice p u i).deliver i true
def t2 (p : Po) (u i : Nat) : Ya := (t1 p u i).deliver i true
def t3 (p : Po) (u i : Nat) : Ya := (t2 p u i).deliver i false
structure TwC (p : Po) (u i : Nat) : Prop where
  ok : p.ok
  v0 : 0 ≤ p.ver
  v1 : p.ver ≤ 30
  u1 : 1 ≤ u
  u2 : u ≤ 6
  iu : i < u
theorem tw_us (p : Po) (u i : Nat) (h : TwC p u i) : (twice p u i).us.length = u ∧ (t1 p u i).us.length = u ∧ (t2 p u i).us.length = u := by
  obtain ⟨e1, e2, e3⟩ := twice_at p u i h.u1 h.v0 h.iu
  have a1 := twice_1 p u i h.u1 h.v0 h.iu
  have w1 : (t1 p u i).way[i]? = some (firstN p i) := by
    unfold t1
    rw [a1]; show ((twice p u i).way ++ _)[i]? = _
    rw [List.getElem?_append_left (by have := h.iu; omega)]; exact e1
  have u1 : (t1 p u i).us = (List.replicate u ⟨0, .none⟩).set i ⟨0, .some p⟩ := by unfold t1; rw [a1]
  have a2 := twice_2 p u i h.u1 h.v0 h.iu true _ u1 w1
  refine ⟨by rw [e2]; simp, by rw [u1]; simp, ?_⟩
  unfold t2
  rw [a2]
  show (t1 p u i).us.length = u
  rw [u1]; simp
theorem tw_New {w W : World} {pb : Nat} {p : Po} {u i : Nat} (h : TwC p u i) (hB : Below w.heap.size w W) (hrow : W.heap[pb]? = some (.cells p.cells.toArray 33 (0, 0))) :
    Calls Try.prog 12 #[.agg p.cells.toArray, .int .i64 u] W fun r W' => ∃ yb, r = .returned (.tuple #[.pointer (some ⟨yb, 0, none⟩), I 0]) ∧ LawE w yb pb p (Ya.new p u) W' := lw_New h.ok u h.u1 (by have := h.u2; omega) hB hrow
theorem tw_Tick {w W : World} {yb pb : Nat} {p q : Po} {u i : Nat} (h : TwC p u i) (hE : LawE w yb pb q (Ya.new p u) W) : Calls Try.prog 13 #[.pointer (some ⟨yb, 0, none⟩)] W fun r W' => r = .returned (I u) ∧ LawE w yb pb q (twice p u i) W' := by
  have hn := next_new p u h.u1 h.v0
  have hu2 := h.u2
  have := lw_Tick hE (pub_none _ rfl) (by rw [hn]; show (List.replicate u ((0 : Int), (-1 : Int))).length ≤ 16; simp; omega) (by rw [hn]; exact h.v0) (by rw [hn]; have := h.v1; show p.ver ≤ _; omega) (by show 0 ≤ _; omega)
  rw [show (Ya.new p u).tick = twice p u i from rfl, (twice_all p u i h.u1 h.v0 h.iu h.ok).2.2.2.2.2.2.1] at this
  exact this
theorem tw_D1 {w W : World} {yb pb : Nat} {p q : Po} {u i : Nat} (h : TwC p u i) (hE : LawE w yb pb q (twice p u i) W) : Calls Try.prog 14 #[.pointer (some ⟨yb, 0, none⟩), .int .i64 i, .bool true] W fun r W' => r = .returned (.bool true) ∧ LawE w yb pb q (t1 p u i) W' := by
  have ha := twice_all p u i h.u1 h.v0 h.iu h.ok
  have hus := (tw_us p u i h).1
  have := h.u2
  exact lw_Deliver hE i true ha.1 (by rw [ha.2.2.2.2.2.2.1]; omega) (by omega)
theorem tw_D2 {w W : World} {yb pb : Nat} {p q : Po} {u i : Nat} (h : TwC p u i) (hE : LawE w yb pb q (t1 p u i) W) : Calls Try.prog 14 #[.pointer (some ⟨yb, 0, none⟩), .int .i64 i, .bool true] W fun r W' => r = .returned (.bool true) ∧ LawE w yb pb q (t2 p u i) W' := by
  have ha := twice_all p u i h.u1 h.v0 h.iu h.ok
  have hus := (tw_us p u i h).2.1
  have := h.u2
  exact lw_Deliver hE i true ha.2.1 (by have := ha.2.2.2.2.2.2.2.1; unfold t1; omega) (by omega)
theorem tw_D3 {w W : World} {yb pb : Nat} {p q : Po} {u i : Nat} (h : TwC p u i) (hE : LawE w yb pb q (t2 p u i) W) : Calls Try.prog 14 #[.pointer (some ⟨yb, 0, none⟩), .int .i64 i, .bool false] W fun r W' => r = .returned (.bool true) ∧ LawE w yb pb q (t3 p u i) W' := by
  have ha := twice_all p u i h.u1 h.v0 h.iu h.ok
  have hus := (tw_us p u i h).2.2
  have := h.u2
  exact lw_Deliver hE i false ha.2.2.1 (by have := ha.2.2.2.2.2.2.2.2; unfold t2 t1; omega) (by omega)
theorem tw_Version {w W : World} {yb pb : Nat} {p q : Po} {u i : Nat} (h : TwC p u i) (hE : LawE w yb pb q (t3 p u i) W) : Calls Try.prog 15 #[.pointer (some ⟨yb, 0, none⟩), .int .i64 i] W fun r W' => r = .returned (.tuple #[I p.ver, .bool true]) ∧ LawE w yb pb q (t3 p u i) W' := by
  have ha := twice_all p u i h.u1 h.v0 h.iu h.ok
  have hl : (t3 p u i).us.length = u := ha.2.2.2.2.1
  have hg : (t3 p u i).us.getD i ⟨0, .none⟩ = ⟨0, .some p⟩ := ha.2.2.2.1
  have := h.u2
  refine (lw_Version hE i (by have := h.iu; omega) (by omega)).mono ?_
  rintro r W' ⟨rfl, n, rfl⟩
  exact ⟨by rw [hg]; rfl, hE.drewN n⟩
theorem tw_Notes {w W : World} {yb pb : Nat} {p q : Po} {u i : Nat} (h : TwC p u i) (hE : LawE w yb pb q (t3 p u i) W) : Calls Try.prog 16 #[.pointer (some ⟨yb, 0, none⟩)] W fun r W' => r = .returned (I ((u : Int) - 1 + 3)) ∧ W' = W := by
  have ha := twice_all p u i h.u1 h.v0 h.iu h.ok
  have hl : (t3 p u i).way.length = u - 1 + 3 := ha.2.2.2.2.2.1
  have := lw_Notes hE
  rw [hl, show ((u - 1 + 3 : Nat) : Int) = (u : Int) - 1 + 3 by have := h.u1; omega] at this
  exact this
end Go.Proofs.Ytimdaceidhdaeaa
