/- Proved: lemmas that the law's proof stands on (YardK, YardP, MapLaws, Chan, YardS). Conditions: as each states. -/
import Derived.Deep.RegionHeld3
import Derived.Tactics
import Derived.Conc.LoneSelect
import Derived.Orders
import Derived.Deep.LoopGhost
import Derived.Test.YtimdaceidhdaeaaLawTwice01
import Derived.Test.YtimdaceidhdaeaaLawTwice06

namespace Go.Proofs.Ytimdaceidhdaeaa
open Go.RowKit Go.Proofs
structure SDr (b o g n cap : Nat) (W : World) : Prop where
  hv : W.cell? ⟨b, o, none⟩ = some (.slice (some ⟨g, 0, none⟩) n cap)
theorem notes_app (a b : List No) : notes (a ++ b) = notes a ++ notes b := by simp [notes]
theorem notes_split (l : List No) (h : ∀ n ∈ l, n.p.ok) (k : Nat) (hk : k ≤ l.length) (j : Nat) : (notes (l.drop k))[j]? = (notes l)[k * 342 + j]? := by
  have e : notes l = notes (l.take k) ++ notes (l.drop k) := by rw [← notes_app, List.take_append_drop]
  have hl : (notes (l.take k)).length = k * 342 := by rw [notes_len _ (fun n hn => h n (List.mem_of_mem_take hn)), List.length_take]; congr 1; omega
  rw [e, List.getElem?_append_right (by rw [hl]; omega), hl]
  congr 1; omega
theorem notes_front (l : List No) (h : ∀ n ∈ l, n.p.ok) (k : Nat) (hk : k ≤ l.length) : (notes l).take (k * 342) = notes (l.take k) := by
  have e : notes l = notes (l.take k) ++ notes (l.drop k) := by rw [← notes_app, List.take_append_drop]
  have hl : (notes (l.take k)).length = k * 342 := by rw [notes_len _ (fun n hn => h n (List.mem_of_mem_take hn)), List.length_take]; congr 1; omega
  rw [e, ← hl, List.take_left]
theorem wp_append_row {P : Program} {o : Oper} {ac : Act} {w : World} {K : Act → World → Prop} {Q : Exit → Act → World → Prop} (s x : Operand) (t : TypeId)
    (ho : o.op = .call { callee := .builtin .append, args := #[s, x], argTypes := #[t, t] })
    (e : TypeId) (i : TypeInfo) (z : Value) (size bytes : Nat) (ht : P.underlying t = some (.slice e)) (hi : P.info? e = some i) (hz : i.zero = some z)
    (hsize : i.size = size) (hby : i.bytes = bytes) (hzs : z.cells.size = size) (hsz : 0 < size)
    (v : Value) (n : Nat) (xs : List Value) (hs : ac.eval s = v) (hown : RowOf w e size v n xs)
    (a : Addr) (m c : Nat) (news : List Value) (hx : ac.eval x = .slice (some a) m c) (hl : news.length = m * size) (hnews : ∀ j u, news[j]? = some u → w.cell? (a.add j) = some u) (h1 : ∀ u ∈ news, u.oneCell' = true)
    (h63 : n + m ≤ maxLen) (hbytes : (n + m) * bytes ≤ 140737488355328)
    (h : ∀ v' w', RowOf w' e size v' (n + m) (xs ++ news) → w.grownBy w' v.ownBlock → (∀ k, v'.ownBlock = some k → v.ownBlock = some k ∨ w.heap.size ≤ k) → K (ac.put o.dst v') w') : o.wp P ac w K Q := by
  obtain ⟨v', w', hr, h2, h3, h4⟩ := rowOf_append (P := P) w t o.type e i z size bytes ht hi hz hsize hby hzs v n xs hown a m c news hl hnews h1 h63 hbytes hsz
  unfold Oper.wp execOp
  simp only [ho, resolve, invoke, builtin, Sem.run_bind, Sem.run_pure, Result.andThen_ok, List.map_toArray, List.map_cons, List.map_nil, hs, hx, hr]
  exact h v' w' h2 h3 h4
theorem RowOf.front {w : World} {g n cap : Nat} {e : TypeId} {l : List No} (h : RowOf w e 342 (.slice (some ⟨g, 0, none⟩) n cap) n (notes l)) (hl : l.length = n) (hok : ∀ x ∈ l, x.p.ok) (i : Nat) (hi : i ≤ n) :
    RowOf w e 342 (.slice (some ⟨g, 0, none⟩) i i) i (notes (l.take i)) := by
  rcases h.2 with ⟨h1, _⟩ | ⟨g', cap', cur, h1, hg, hnc, hcm, hcs, htake⟩
  · simp at h1
  · simp only [Value.slice.injEq, Option.some.injEq, Addr.mk.injEq, true_and, and_true] at h1
    obtain ⟨rfl, rfl⟩ := h1
    have e1 := notes_front l hok i (by omega)
    refine ⟨by rw [notes_len _ (fun x hx => hok x (List.mem_of_mem_take hx)), List.length_take]; congr 1; omega, .inr ⟨g, i, cur, rfl, hg, Nat.le_refl _, by omega, ?_, ?_⟩⟩
    · exact Nat.le_trans (Nat.mul_le_mul_right _ (by omega)) hcs
    · rw [← e1, ← htake, List.take_take]
      congr 1
      exact (Nat.min_eq_left (Nat.mul_le_mul_right _ hi)).symm
set_option maxHeartbeats 2000000 in
set_option maxRecDepth 100000 in
theorem notes_drop (b o g n cap : Nat) (i : Nat) (w : World) (hv : w.cell? ⟨b, o, none⟩ = some (.slice (some ⟨g, 0, none⟩) n cap)) (hf : w.frozen? ⟨b, o, none⟩ = false) (hi : i < n) (hn : n ≤ 1000000) (l : List No) (hl : l.length = n) (hok : ∀ x ∈ l, x.p.ok) (hrow : RowOf w 86 342 (.slice (some ⟨g, 0, none⟩) n cap) n (notes l)) (hgb : g ≠ b) :
    Calls Try.prog 38 #[.pointer (some ⟨b, o, none⟩), .int .i64 i] w fun r w' => r = .returned (.tuple #[]) ∧ ∃ v', w'.cell? ⟨b, o, none⟩ = some v' ∧
      RowOf w' 86 342 v' (n - 1) (notes (l.eraseIdx i)) ∧ Kp (fun k => k = b ∨ k = g) w w' ∧ (∀ k, v'.ownBlock = some k → k = g ∨ w.heap.size ≤ k) ∧ (∀ C t, w.heap[b]? = some (.cells C t (0, 0)) → w'.heap[b]? = some (.cells (C.setIfInBounds o v') t (0, 0))) := by
  have hc : n ≤ cap := by
    rcases hrow.2 with ⟨h, _⟩ | ⟨g', cap', _, h, _, hnc, _⟩
    · simp at h
    · simp only [Value.slice.injEq, true_and] at h
      omega
  have HW := Bx.mk (And.intro hrow (And.intro hl hok))
  clear hrow hl hok
  have k0 : (0 : Int) ≤ (i : Int) := by omega
  have hic : i ≤ cap := by omega
  have hj0 : (0 : Int) ≤ (i : Int) + 1 := by omega
  have hj1 : (i : Int) + 1 ≤ (n : Int) := by omega
  have hw : IntKind.i64.wrap ((i : Int) + 1) = ((i + 1 : Nat) : Int) := by rw [IntWalk.i64_in _ (by omega)]; rfl
  go_enter Try.func38, Try.ntmps38
  go_wp2_with fail
  refine wp_region_noPanic ?_
  refine wp_region_any (by kernel_rfl) ?_
  change wpAny _ _ _ _ _ _ _ w.drew
  have HX := Bx.mk (And.intro (show RowOf w.drew 86 342 (.slice (some ⟨g, 0, none⟩) n cap) n (notes l) from HW.out.1) (And.intro (show w.drew.frozen? ⟨b, o, none⟩ = false from hf) (And.intro (show Kp (fun k => k = b ∨ k = g) w w.drew from ⟨rfl, rfl, rfl, Nat.le_refl _, fun _ _ _ => rfl⟩) (show ∀ C t, w.heap[b]? = some (.cells C t (0, 0)) → w.drew.heap[b]? = some (.cells C t (0, 0)) from fun _ _ h => h))))
  have hS : w.drew.cell? ⟨b, o, none⟩ = some (.slice (some ⟨g, 0, none⟩) n cap) := hv
  clear hv hf
  generalize w.drew = X at hS HX ⊢
  refine wpAny_take (i := 0) (v := ?_) rfl (by kernel_rfl) (by kernel_rfl) (by kernel_rfl) (fun _ _ _ h => h) (Or.inl ⟨by rfl, ?_⟩) ?_
  rotate_left
  · intro W1; go_simp; first | done | with_reducible rfl
  simp only [List.getElem_toArray, List.getElem_cons_succ, List.getElem_cons_zero, Act.put, List.setIfInBounds_toArray, List.set_cons_zero, List.set_cons_succ]
  refine wpAny_take (i := 1) (v := ?_) rfl (by kernel_rfl) (by kernel_rfl) (by kernel_rfl) (fun _ _ _ h => h) (Or.inl ⟨by rfl, ?_⟩) ?_
  rotate_left
  · intro W1; go_simp; first | done | with_reducible rfl
  simp only [List.getElem_toArray, List.getElem_cons_succ, List.getElem_cons_zero, Act.put, List.setIfInBounds_toArray, List.set_cons_zero, List.set_cons_succ]
  refine wpAny_take (i := 2) (v := ?_) rfl (by kernel_rfl) (by kernel_rfl) (by kernel_rfl) (fun _ _ _ h => h) (Or.inl ⟨by rfl, ?_⟩) ?_
  rotate_left
  · intro W1; go_simp; first | done | with_reducible rfl
  simp only [List.getElem_toArray, List.getElem_cons_succ, List.getElem_cons_zero, Act.put, List.setIfInBounds_toArray, List.set_cons_zero, List.set_cons_succ]
  refine wpAny_take (i := 3) (v := ?_) rfl (by kernel_rfl) (by kernel_rfl) (by kernel_rfl) (fun _ _ _ h => h) (Or.inl ⟨by rfl, ?_⟩) ?_
  rotate_left
  · intro W1; go_simp; first | done | with_reducible rfl
  simp only [List.getElem_toArray, List.getElem_cons_succ, List.getElem_cons_zero, Act.put, List.setIfInBounds_toArray, List.set_cons_zero, List.set_cons_succ]
  refine wpAny_take (i := 5) (v := ?_) rfl (by kernel_rfl) (by kernel_rfl) (by kernel_rfl) (fun _ _ _ h => h) (Or.inl ⟨by rfl, ?_⟩) ?_
  rotate_left
  · intro W1; go_simp; first | done | with_reducible rfl
  simp only [List.getElem_toArray, List.getElem_cons_succ, List.getElem_cons_zero, Act.put, List.setIfInBounds_toArray, List.set_cons_zero, List.set_cons_succ]
  refine wpAny_take (i := 6) (v := ?_) rfl (by kernel_rfl) (by kernel_rfl) (by kernel_rfl) (fun _ _ _ h => h) (Or.inl ⟨by rfl, ?_⟩) ?_
  rotate_left
  · intro W1; go_simp; first | done | with_reducible rfl
  simp only [List.getElem_toArray, List.getElem_cons_succ, List.getElem_cons_zero, Act.put, List.setIfInBounds_toArray, List.set_cons_zero, List.set_cons_succ]
  refine wpAny_take (i := 8) (v := ?_) rfl (by kernel_rfl) (by kernel_rfl) (by kernel_rfl) (fun _ _ _ h => h) (Or.inl ⟨by rfl, ?_⟩) ?_
  rotate_left
  · intro W1; go_simp; first | done | with_reducible rfl
  simp only [List.getElem_toArray, List.getElem_cons_succ, List.getElem_cons_zero, Act.put, List.setIfInBounds_toArray, List.set_cons_zero, List.set_cons_succ]
  refine wpAny_take (i := 9) (v := ?_) rfl (by kernel_rfl) (by kernel_rfl) (by kernel_rfl) (fun _ _ _ h => h) (Or.inl ⟨by rfl, ?_⟩) ?_
  rotate_left
  · intro W1; go_simp; first | done | with_reducible rfl
  simp only [List.getElem_toArray, List.getElem_cons_succ, List.getElem_cons_zero, Act.put, List.setIfInBounds_toArray, List.set_cons_zero, List.set_cons_succ]
  refine wpAny_take (i := 10) (v := ?_) rfl (by kernel_rfl) (by kernel_rfl) (by kernel_rfl) (fun _ _ _ h => h) (Or.inl ⟨by rfl, ?_⟩) ?_
  rotate_left
  · intro W1; go_simp; first | done | with_reducible rfl
  simp only [List.getElem_toArray, List.getElem_cons_succ, List.getElem_cons_zero, Act.put, List.setIfInBounds_toArray, List.set_cons_zero, List.set_cons_succ]
  refine wpAny_take (i := 12) (v := ?_) rfl (by kernel_rfl) (by kernel_rfl) (by kernel_rfl) (fun _ _ _ h => h) (Or.inl ⟨by rfl, ?_⟩) ?_
  rotate_left
  · intro W1; go_simp; first | done | with_reducible rfl
  simp only [List.getElem_toArray, List.getElem_cons_succ, List.getElem_cons_zero, Act.put, List.setIfInBounds_toArray, List.set_cons_zero, List.set_cons_succ]
  refine wpAny_take (i := 13) (v := ?_) rfl (by kernel_rfl) (by kernel_rfl) (by kernel_rfl) (fun _ _ _ h => h) (Or.inl ⟨by rfl, ?_⟩) ?_
  rotate_left
  · intro W1; go_simp; first | done | with_reducible rfl
  simp only [List.getElem_toArray, List.getElem_cons_succ, List.getElem_cons_zero, Act.put, List.setIfInBounds_toArray, List.set_cons_zero, List.set_cons_succ]
  refine wpAny_ready (rs := [4, 11]) (by kernel_rfl) (by simp) ?_
  refine AllReady.cons rfl (fun K hK => ?_) (AllReady.cons rfl (fun K hK => ?_) AllReady.nil)
  · go_simp
    refine hK _ _ ?_
    clear hK K
    refine wpAny_take (i := 7) (v := ?_) rfl (by kernel_rfl) (by kernel_rfl) (by kernel_rfl) (fun _ _ _ h => h) (Or.inl ⟨by rfl, ?_⟩) ?_
    rotate_left
    · intro W1; go_simp; first | done | with_reducible rfl
    simp only [List.getElem_toArray, List.getElem_cons_succ, List.getElem_cons_zero, Act.put, List.setIfInBounds_toArray, List.set_cons_zero, List.set_cons_succ]
    refine wpAny_ready (rs := [11]) (by kernel_rfl) (by simp) ?_
    refine AllReady.cons rfl (fun K hK => ?_) AllReady.nil
    go_simp
    refine hK _ _ ?_
    clear hK K
    refine wpAny_take (i := 14) (v := ?_) rfl (by kernel_rfl) (by kernel_rfl) (by kernel_rfl) (fun _ _ _ h => h) (Or.inl ⟨by rfl, ?_⟩) ?_
    rotate_left
    · intro W1; go_simp; first | done | with_reducible rfl
    simp only [List.getElem_toArray, List.getElem_cons_succ, List.getElem_cons_zero, Act.put, List.setIfInBounds_toArray, List.set_cons_zero, List.set_cons_succ]
    obtain ⟨ad, had, hadv⟩ : ∃ ad, (if cap = i + 1 then some (⟨g, 0, none⟩ : Addr) else some ⟨g, (i + 1) * 342, none⟩) = some ad ∧ (i + 1 < n → ad = ⟨g, (i + 1) * 342, none⟩) := by
      by_cases h : cap = i + 1
      · exact ⟨_, if_pos h, fun h2 => by omega⟩
      · exact ⟨_, if_neg h, fun _ => rfl⟩
    rw [had]
    refine wpAny_ready (rs := [15]) (by kernel_rfl) (by simp) ?_
    refine AllReady.cons rfl (fun K hK => ?_) AllReady.nil
    rw [if_pos (by rfl)]
    obtain ⟨i0, hi0, hz0, hz1, hz2⟩ := info_parts info86
    refine wp_append_row _ _ 72 rfl 86 i0 _ 342 2728 Try.underlying72 hi0 hz0 hz1 hz2 ?_ (by decide) _ i (notes (l.take i)) rfl (HX.out.1.front HW.out.2.1 HW.out.2.2 i (by omega)) ad (n - (i + 1)) _ (notes (l.drop (i + 1))) rfl ?_ ?_ (notes_one _) ?_ ?_ ?_
    · show (No.zero.cells.toArray).size = 342
      rw [List.size_toArray, No.cells_len _ Po.zero_ok]
    · rw [notes_len _ (fun x hx => HW.out.2.2 x (List.mem_of_mem_drop hx)), List.length_drop, HW.out.2.1]
    · intro j u hu
      have hlt : i + 1 < n := by
        by_cases c : i + 1 < n
        · exact c
        · rw [List.drop_of_length_le (by rw [HW.out.2.1]; omega)] at hu
          simp [notes] at hu
      rw [hadv hlt, Addr.add_lit]
      rw [notes_split _ HW.out.2.2 _ (by rw [HW.out.2.1]; omega)] at hu
      exact HX.out.1.cells rfl _ _ hu
    · unfold maxLen; omega
    · omega
    intro v' w' h2 h3 h4
    have hbX : b < X.heap.size := World.block_lt_of_cell? X ⟨b, o, none⟩ hS
    have hne : some b ≠ (Value.slice (some ⟨g, 0, none⟩) i i).ownBlock := fun e => by injection e with e; exact hgb e.symm
    have hv' : w'.cell? ⟨b, o, none⟩ = some (.slice (some ⟨g, 0, none⟩) n cap) := h3.cell hS hne
    have hf' : w'.frozen? ⟨b, o, none⟩ = false := (World.frozen?_of_block (h3.block b hbX hne)).trans HX.out.2.1
    have hkp : Kp (fun k => k = b ∨ k = g) w w' := HX.out.2.2.1.trans ⟨h3.os, h3.tape, h3.output, h3.size, fun k hk hn => h3.block k hk (fun e => hn (Or.inr (by injection e)))⟩
    have hsz := HX.out.2.2.1.size
    have hnn : i + (n - (i + 1)) = n - 1 := by omega
    have hee : notes (l.take i) ++ notes (l.drop (i + 1)) = notes (l.eraseIdx i) := by rw [← notes_app, List.eraseIdx_eq_take_drop_succ]
    rw [hnn, hee] at h2
    obtain ⟨g2, cap2, rfl⟩ : ∃ g2 cap2, v' = .slice g2 (n - 1) cap2 := by
      rcases h2.2 with ⟨rfl, h0⟩ | ⟨g2, cap2, _, rfl, _⟩
      · exact ⟨none, 0, by rw [h0]⟩
      · exact ⟨_, _, rfl⟩
    have h4' : ∀ k, (Value.slice g2 (n - 1) cap2).ownBlock = some k → k = g ∨ w.heap.size ≤ k := fun k hk => by
      rcases h4 k hk with h | h
      · left; injection h with h; exact h.symm
      · right; omega
    have hgb2 : ∀ k, (Value.slice g2 (n - 1) cap2).ownBlock = some k → k ≠ b := fun k hk e => by
      rcases h4 k hk with h | h
      · injection h with h; exact hgb (h.trans e)
      · omega
    have HBk := Bx.mk (fun (C : Array Value) (t : TypeId) (hC : w.heap[b]? = some (.cells C t (0, 0))) => (h3.block b hbX hne).trans (HX.out.2.2.2 C t hC))
    have HF := Bx.mk (And.intro h2 (And.intro hkp (And.intro h4' hgb2)))
    clear h2 h3 h4 hkp h4' hgb2 hnn hee hsz hne hbX HX HW hz0 hz1 hz2 hi0 had hadv hS
    refine hK _ _ ?_
    clear hK K
    try simp only [List.getElem_toArray, List.getElem_cons_succ, List.getElem_cons_zero, Act.put, List.setIfInBounds_toArray, List.set_cons_zero, List.set_cons_succ]
    refine wpAny_take (i := 16) (v := ?_) rfl (by kernel_rfl) (by kernel_rfl) (by kernel_rfl) (fun _ _ _ h => h) (Or.inl ⟨by rfl, ?_⟩) ?_
    rotate_left
    · intro W1; go_simp; first | done | with_reducible rfl
    simp only [List.getElem_toArray, List.getElem_cons_succ, List.getElem_cons_zero, Act.put, List.setIfInBounds_toArray, List.set_cons_zero, List.set_cons_succ]
    refine wpAny_take (i := 17) (v := ?_) rfl (by kernel_rfl) (by kernel_rfl) (by kernel_rfl) (fun _ _ _ h => h) (Or.inl ⟨by rfl, ?_⟩) ?_
    rotate_left
    · intro W1; go_simp; first | done | with_reducible rfl
    simp only [List.getElem_toArray, List.getElem_cons_succ, List.getElem_cons_zero, Act.put, List.setIfInBounds_toArray, List.set_cons_zero, List.set_cons_succ]
    refine wpAny_ready (rs := [18]) (by kernel_rfl) (by simp) ?_
    refine AllReady.cons rfl (fun K hK => ?_) AllReady.nil
    go_simp
    refine hK _ _ ?_
    clear hK K
    refine wpAny_done (by kernel_rfl) ?_ _
    refine NoPanic.normal ?_
    refine bodyPost_end (results_none rfl _ _ _) rfl ⟨rfl, _, World.cell?_setCell_same _ _ _ hv', HF.out.1.kept (fun k hk => Below.heap_setCell _ _ _ _ (fun e => HF.out.2.2.2 k hk e)), HF.out.2.1.trans (Kp.setCell (F := fun k => k = b ∨ k = g) (p := ⟨b, o, none⟩) (Or.inl rfl) _), HF.out.2.2.1, fun C t hC => setCell_block (HBk.out C t hC) o _⟩
  · go_simp
    refine hK _ _ ?_
    clear hK K
    refine wpAny_take (i := 14) (v := ?_) rfl (by kernel_rfl) (by kernel_rfl) (by kernel_rfl) (fun _ _ _ h => h) (Or.inl ⟨by rfl, ?_⟩) ?_
    rotate_left
    · intro W1; go_simp; first | done | with_reducible rfl
    simp only [List.getElem_toArray, List.getElem_cons_succ, List.getElem_cons_zero, Act.put, List.setIfInBounds_toArray, List.set_cons_zero, List.set_cons_succ]
    refine wpAny_ready (rs := [4]) (by kernel_rfl) (by simp) ?_
    refine AllReady.cons rfl (fun K hK => ?_) AllReady.nil
    go_simp
    refine hK _ _ ?_
    clear hK K
    refine wpAny_take (i := 7) (v := ?_) rfl (by kernel_rfl) (by kernel_rfl) (by kernel_rfl) (fun _ _ _ h => h) (Or.inl ⟨by rfl, ?_⟩) ?_
    rotate_left
    · intro W1; go_simp; first | done | with_reducible rfl
    simp only [List.getElem_toArray, List.getElem_cons_succ, List.getElem_cons_zero, Act.put, List.setIfInBounds_toArray, List.set_cons_zero, List.set_cons_succ]
    obtain ⟨ad, had, hadv⟩ : ∃ ad, (if cap = i + 1 then some (⟨g, 0, none⟩ : Addr) else some ⟨g, (i + 1) * 342, none⟩) = some ad ∧ (i + 1 < n → ad = ⟨g, (i + 1) * 342, none⟩) := by
      by_cases h : cap = i + 1
      · exact ⟨_, if_pos h, fun h2 => by omega⟩
      · exact ⟨_, if_neg h, fun _ => rfl⟩
    rw [had]
    refine wpAny_ready (rs := [15]) (by kernel_rfl) (by simp) ?_
    refine AllReady.cons rfl (fun K hK => ?_) AllReady.nil
    rw [if_pos (by rfl)]
    obtain ⟨i0, hi0, hz0, hz1, hz2⟩ := info_parts info86
    refine wp_append_row _ _ 72 rfl 86 i0 _ 342 2728 Try.underlying72 hi0 hz0 hz1 hz2 ?_ (by decide) _ i (notes (l.take i)) rfl (HX.out.1.front HW.out.2.1 HW.out.2.2 i (by omega)) ad (n - (i + 1)) _ (notes (l.drop (i + 1))) rfl ?_ ?_ (notes_one _) ?_ ?_ ?_
    · show (No.zero.cells.toArray).size = 342
      rw [List.size_toArray, No.cells_len _ Po.zero_ok]
    · rw [notes_len _ (fun x hx => HW.out.2.2 x (List.mem_of_mem_drop hx)), List.length_drop, HW.out.2.1]
    · intro j u hu
      have hlt : i + 1 < n := by
        by_cases c : i + 1 < n
        · exact c
        · rw [List.drop_of_length_le (by rw [HW.out.2.1]; omega)] at hu
          simp [notes] at hu
      rw [hadv hlt, Addr.add_lit]
      rw [notes_split _ HW.out.2.2 _ (by rw [HW.out.2.1]; omega)] at hu
      exact HX.out.1.cells rfl _ _ hu
    · unfold maxLen; omega
    · omega
    intro v' w' h2 h3 h4
    have hbX : b < X.heap.size := World.block_lt_of_cell? X ⟨b, o, none⟩ hS
    have hne : some b ≠ (Value.slice (some ⟨g, 0, none⟩) i i).ownBlock := fun e => by injection e with e; exact hgb e.symm
    have hv' : w'.cell? ⟨b, o, none⟩ = some (.slice (some ⟨g, 0, none⟩) n cap) := h3.cell hS hne
    have hf' : w'.frozen? ⟨b, o, none⟩ = false := (World.frozen?_of_block (h3.block b hbX hne)).trans HX.out.2.1
    have hkp : Kp (fun k => k = b ∨ k = g) w w' := HX.out.2.2.1.trans ⟨h3.os, h3.tape, h3.output, h3.size, fun k hk hn => h3.block k hk (fun e => hn (Or.inr (by injection e)))⟩
    have hsz := HX.out.2.2.1.size
    have hnn : i + (n - (i + 1)) = n - 1 := by omega
    have hee : notes (l.take i) ++ notes (l.drop (i + 1)) = notes (l.eraseIdx i) := by rw [← notes_app, List.eraseIdx_eq_take_drop_succ]
    rw [hnn, hee] at h2
    obtain ⟨g2, cap2, rfl⟩ : ∃ g2 cap2, v' = .slice g2 (n - 1) cap2 := by
      rcases h2.2 with ⟨rfl, h0⟩ | ⟨g2, cap2, _, rfl, _⟩
      · exact ⟨none, 0, by rw [h0]⟩
      · exact ⟨_, _, rfl⟩
    have h4' : ∀ k, (Value.slice g2 (n - 1) cap2).ownBlock = some k → k = g ∨ w.heap.size ≤ k := fun k hk => by
      rcases h4 k hk with h | h
      · left; injection h with h; exact h.symm
      · right; omega
    have hgb2 : ∀ k, (Value.slice g2 (n - 1) cap2).ownBlock = some k → k ≠ b := fun k hk e => by
      rcases h4 k hk with h | h
      · injection h with h; exact hgb (h.trans e)
      · omega
    have HBk := Bx.mk (fun (C : Array Value) (t : TypeId) (hC : w.heap[b]? = some (.cells C t (0, 0))) => (h3.block b hbX hne).trans (HX.out.2.2.2 C t hC))
    have HF := Bx.mk (And.intro h2 (And.intro hkp (And.intro h4' hgb2)))
    clear h2 h3 h4 hkp h4' hgb2 hnn hee hsz hne hbX HX HW hz0 hz1 hz2 hi0 had hadv hS
    refine hK _ _ ?_
    clear hK K
    try simp only [List.getElem_toArray, List.getElem_cons_succ, List.getElem_cons_zero, Act.put, List.setIfInBounds_toArray, List.set_cons_zero, List.set_cons_succ]
    refine wpAny_take (i := 16) (v := ?_) rfl (by kernel_rfl) (by kernel_rfl) (by kernel_rfl) (fun _ _ _ h => h) (Or.inl ⟨by rfl, ?_⟩) ?_
    rotate_left
    · intro W1; go_simp; first | done | with_reducible rfl
    simp only [List.getElem_toArray, List.getElem_cons_succ, List.getElem_cons_zero, Act.put, List.setIfInBounds_toArray, List.set_cons_zero, List.set_cons_succ]
    refine wpAny_take (i := 17) (v := ?_) rfl (by kernel_rfl) (by kernel_rfl) (by kernel_rfl) (fun _ _ _ h => h) (Or.inl ⟨by rfl, ?_⟩) ?_
    rotate_left
    · intro W1; go_simp; first | done | with_reducible rfl
    simp only [List.getElem_toArray, List.getElem_cons_succ, List.getElem_cons_zero, Act.put, List.setIfInBounds_toArray, List.set_cons_zero, List.set_cons_succ]
    refine wpAny_ready (rs := [18]) (by kernel_rfl) (by simp) ?_
    refine AllReady.cons rfl (fun K hK => ?_) AllReady.nil
    go_simp
    refine hK _ _ ?_
    clear hK K
    refine wpAny_done (by kernel_rfl) ?_ _
    refine NoPanic.normal ?_
    refine bodyPost_end (results_none rfl _ _ _) rfl ⟨rfl, _, World.cell?_setCell_same _ _ _ hv', HF.out.1.kept (fun k hk => Below.heap_setCell _ _ _ _ (fun e => HF.out.2.2.2 k hk e)), HF.out.2.1.trans (Kp.setCell (F := fun k => k = b ∨ k = g) (p := ⟨b, o, none⟩) (Or.inl rfl) _), HF.out.2.2.1, fun C t hC => setCell_block (HBk.out C t hC) o _⟩
end Go.Proofs.Ytimdaceidhdaeaa

namespace Go.Proofs.Ytimdaceidhdaeaa
/-! The yard, in plain Lean. -/
structure He where
  p : Po
  q : List En
  hs : List (Int × Int)
  last : En
  got : Bool
structure Uu where
  boot : Int
  st : Option Po
structure Ya where
  h : He
  us : List Uu
  way : List No
def Uu.ver (u : Uu) : Int := match u.st with | .some p => p.ver | .none => -1
def Uu.up (u : Uu) : Bool := u.st.isSome
def He.all (h : He) : Bool := h.hs.all fun x => x.2 == h.p.ver
def He.publish (h : He) : He :=
  match h.q with
  | [] => h
  | e :: q => if apErr h.p e = 0 then { h with p := poDo h.p e, last := e, got := true, q := q } else { h with q := q }
def He.note (h : He) (i : Nat) (x : Int × Int) : List No :=
  if h.p.ver ≤ x.2 then []
  else if x.2 = h.p.ver - 1 ∧ h.got = true then [⟨i, x.1, h.p.ver, false, false, h.last, Po.zero⟩]
  else [⟨i, x.1, h.p.ver, true, false, En.zero, h.p⟩]
/-- What is said to the units from number k on, n of them. -/
def He.says (h : He) : Nat → List No
  | 0 => []
  | k + 1 => h.says k ++ h.note k (h.hs.getD k (0, 0))
def He.next (h : He) : He := if h.all then h.publish else h
def He.heard (h : He) (n : No) : He :=
  if n.ack = false ∨ n.u < 0 ∨ (h.hs.length : Int) ≤ n.u then h else
  let w := h.hs.getD n.u.toNat (0, 0)
  if n.b < w.1 then h else
  { h with hs := h.hs.set n.u.toNat (if w.1 < n.b ∨ w.2 < max n.v (-1) then (n.b, max n.v (-1)) else w) }
def Uu.come (u : Uu) (n : No) : Uu :=
  if n.b ≠ u.boot then u
  else if n.whole = true ∧ u.ver < n.p.ver then { u with st := .some n.p }
  else if n.whole = false ∧ 0 ≤ u.ver ∧ n.v = u.ver + 1 then
    match u.st with
    | .some p => if apErr p n.e = 0 then { u with st := .some (poDo p n.e) } else u
    | .none => u
  else u
def Uu.word (u : Uu) (i : Int) : No := ⟨i, u.boot, u.ver, false, true, En.zero, Po.zero⟩
def Ya.deliver (y : Ya) (i : Nat) (keep : Bool) : Ya :=
  let n := y.way.getD i No.zero
  let way := if keep then y.way else y.way.eraseIdx i
  if n.ack then { y with h := y.h.heard n, way := way }
  else if 0 ≤ n.u ∧ n.u < y.us.length then
    let u := (y.us.getD n.u.toNat ⟨0, .none⟩).come n
    { y with us := y.us.set n.u.toNat u, way := way ++ [u.word n.u] }
  else { y with way := way }
def Ya.tick (y : Ya) : Ya := { y with h := y.h.next, way := y.way ++ y.h.next.says y.h.next.hs.length }
def Ya.lose (y : Ya) (i : Nat) : Ya := { y with way := y.way.eraseIdx i }
def Ya.crash (y : Ya) (i : Nat) : Ya := { y with us := y.us.set i ⟨(y.us.getD i ⟨0, .none⟩).boot + 1, .none⟩ }
def Ya.new (p : Po) (n : Nat) : Ya := ⟨⟨p, [], List.replicate n (0, -1), En.zero, false⟩, List.replicate n ⟨0, .none⟩, []⟩
end Go.Proofs.Ytimdaceidhdaeaa

namespace Go.Proofs.Ytimdaceidhdaeaa
open Go.RowKit
variable {P : Program}
/-- A word of a unit: its boot, its version. -/
def wdv (h : Int × Int) : Value := .agg #[I h.1, I h.2]
def ents : Nat → List (Int × Int) → List MapEntry
  | _, [] => []
  | i, h :: t => ⟨I i, wdv h, i⟩ :: ents (i + 1) t
def mapAt (w : World) (m : Nat) (hs : List (Int × Int)) : Prop := w.heap[m]? = some (.map (ents 0 hs).toArray hs.length)
def mapObj (hs : List (Int × Int)) : Obj := .map (ents 0 hs).toArray hs.length
theorem ents_len (hs : List (Int × Int)) : ∀ i, (ents i hs).length = hs.length := by
  induction hs with
  | nil => intro i; rfl
  | cons h t ih => intro i; simp [ents, ih]
theorem ents_get (hs : List (Int × Int)) : ∀ (i j : Nat), (ents i hs)[j]? = (hs[j]?).map fun h => (⟨I ((i + j : Nat) : Int), wdv h, i + j⟩ : MapEntry) := by
  induction hs with
  | nil => intro i j; simp [ents]
  | cons h t ih =>
    intro i j
    cases j with
    | zero => simp [ents]
    | succ j => simp only [ents, List.getElem?_cons_succ, ih]; rw [show i + 1 + j = i + (j + 1) by omega]
theorem ents_snoc (hs : List (Int × Int)) (h : Int × Int) : ∀ i, ents i (hs ++ [h]) = ents i hs ++ [⟨I ((i + hs.length : Nat) : Int), wdv h, i + hs.length⟩] := by
  induction hs with
  | nil => intro i; simp [ents]
  | cons a t ih => intro i; simp only [List.cons_append, ents, ih, List.length_cons]; rw [show i + 1 + t.length = i + (t.length + 1) by omega]
theorem ents_set (hs : List (Int × Int)) (h : Int × Int) : ∀ (i j : Nat), (ents i hs).modify j (fun e => { e with key := I ((i + j : Nat) : Int), val := wdv h }) = ents i (hs.set j h) := by
  induction hs with
  | nil => intro i j; simp [ents]
  | cons a t ih =>
    intro i j
    cases j with
    | zero => simp [ents]
    | succ j =>
      have := ih (i + 1) j
      rw [show i + 1 + j = i + (j + 1) by omega] at this
      simp only [ents, List.modify_succ_cons, List.set_cons_succ, this]
theorem findNow_ents (u : Int) (hs : List (Int × Int)) : ∀ (i k : Nat), Instr.findNow (.int .i64) (I u) (ents i hs) k =
    some (if (i : Int) ≤ u ∧ u < i + hs.length then some (k + (u.toNat - i), wdv (hs.getD (u.toNat - i) (0, 0))) else none) := by
  induction hs with
  | nil => intro i k; simp [ents, Instr.findNow]
  | cons h t ih =>
    intro i k
    simp only [ents, Instr.findNow, Instr.sameNow, if_true]
    by_cases e : u = (i : Int)
    · subst e
      have c : (i : Int) ≤ (i : Int) ∧ (i : Int) < i + ((h :: t).length : Int) := by simp only [List.length_cons]; omega
      rw [if_pos c]; simp
    · have e1 : (u == (i : Int)) = false := by simpa using e
      simp only [e1, ih]
      by_cases c : (i : Int) ≤ u ∧ u < i + ((h :: t).length : Int)
      · have c2 : ((i + 1 : Nat) : Int) ≤ u ∧ u < ((i + 1 : Nat) : Int) + (t.length : Int) := by
          simp only [List.length_cons] at c; omega
        rw [if_pos c, if_pos c2]
        obtain ⟨d, hd⟩ : ∃ d, u.toNat - i = d + 1 := ⟨u.toNat - i - 1, by omega⟩
        rw [hd, show u.toNat - (i + 1) = d by omega, List.getD_cons_succ, show k + 1 + d = k + (d + 1) by omega]
      · have c2 : ¬ (((i + 1 : Nat) : Int) ≤ u ∧ u < ((i + 1 : Nat) : Int) + (t.length : Int)) := by
          simp only [List.length_cons] at c; omega
        rw [if_neg c, if_neg c2]
theorem run_findKey {w : World} {key : TypeId} (hk : P.underlying key = some (.int .i64)) (u : Int) (hs : List (Int × Int)) :
    (Instr.findKey key (I u) (ents 0 hs)).run P w = .ok (if 0 ≤ u ∧ u < hs.length then some (u.toNat, wdv (hs.getD u.toNat (0, 0))) else none) w := by
  have := findNow_ents u hs 0 0
  simp only [Int.ofNat_zero, Nat.sub_zero, Nat.zero_add, Int.zero_add] at this
  simp [Instr.findKey, run_underlying hk, this]
theorem run_checkKey {w : World} {key : TypeId} (hk : P.underlying key = some (.int .i64)) (b : Bool) (u : Int) : (Instr.checkKey b 10000 key (I u)).run P w = .ok () w := by
  rw [show (10000 : Nat) = 9999 + 1 from rfl, Instr.checkKey]
  simp only [Sem.run_bind, run_underlying hk, Result.andThen_ok, Sem.run_pure]
theorem run_getMap {w : World} {m : Nat} {hs : List (Int × Int)} (hm : mapAt w m hs) : (getObj m).run P w = .ok (mapObj hs) w := by
  unfold mapAt at hm
  simp [getObj, Sem.run, hm, mapObj]
theorem run_lookup_in {w : World} {t key elem : TypeId} {m u : Nat} {hs : List (Int × Int)} (ht : P.underlying t = some (.map key elem)) (hk : P.underlying key = some (.int .i64)) (hm : mapAt w m hs) (hu : u < hs.length) (ok : Bool) :
    (Instr.lookup t (.map (some m)) (I u) ok).run P w = .ok (if ok then .tuple #[wdv (hs.getD u (0, 0)), .bool true] else wdv (hs.getD u (0, 0))) w := by
  have h1 := run_findKey (P := P) (w := w) hk u hs
  rw [if_pos ⟨by omega, by omega⟩, show (u : Int).toNat = u from rfl] at h1
  simp [Instr.lookup, run_underlying ht, run_getMap hm, mapObj, run_checkKey hk, h1]
theorem run_lookup_out {w : World} {t key elem : TypeId} {m : Nat} {u : Int} {hs : List (Int × Int)} {z : Value} (ht : P.underlying t = some (.map key elem)) (hk : P.underlying key = some (.int .i64)) (hm : mapAt w m hs) (hu : u < 0 ∨ (hs.length : Int) ≤ u) (hz : (zeroValue elem).run P w = .ok z w) (ok : Bool) :
    (Instr.lookup t (.map (some m)) (I u) ok).run P w = .ok (if ok then .tuple #[z, .bool false] else z) w := by
  have h1 := run_findKey (P := P) (w := w) hk u hs
  rw [if_neg (by omega)] at h1
  simp [Instr.lookup, run_underlying ht, run_getMap hm, mapObj, run_checkKey hk, h1, hz]
def putObj (w : World) (b : Nat) (o : Obj) : World := { w with heap := w.heap.setIfInBounds b o }
theorem putObj_get {w : World} {b : Nat} {o : Obj} (h : b < w.heap.size) : (putObj w b o).heap[b]? = some o := by simp [putObj, h]
theorem putObj_other {w : World} {b k : Nat} {o : Obj} (h : k ≠ b) : (putObj w b o).heap[k]? = w.heap[k]? := by
  simp only [putObj]; rw [Array.getElem?_setIfInBounds_ne (Ne.symm h)]
theorem putObj_size {w : World} {b : Nat} {o : Obj} : (putObj w b o).heap.size = w.heap.size := by simp [putObj]
theorem run_setObj {w : World} {m : Nat} {o o' : Obj} (hm : w.heap[m]? = some o) (hc : ∀ c t f, o ≠ .cells c t f) : (setObj m o').run P w = .ok () (putObj w m o') := by
  cases o <;> first | (exact absurd rfl (hc _ _ _)) | simp [setObj, Sem.run, hm, putObj]
theorem run_mapUpdate_set {w : World} {t key elem : TypeId} {m u : Nat} {hs : List (Int × Int)} {h : Int × Int} (ht : P.underlying t = some (.map key elem)) (hk : P.underlying key = some (.int .i64)) (hm : mapAt w m hs) (hu : u < hs.length) :
    (Instr.mapUpdate t (.map (some m)) (I u) (wdv h)).run P w = .ok () (putObj w m (mapObj (hs.set u h))) := by
  have h1 := run_findKey (P := P) (w := w) hk u hs
  rw [if_pos ⟨by omega, by omega⟩, show (u : Int).toNat = u from rfl] at h1
  have h2 : (ents 0 hs)[u]? = some ⟨I (u : Int), wdv hs[u], u⟩ := by rw [ents_get, List.getElem?_eq_getElem hu]; simp
  have h3 : ((ents 0 hs).toArray.modify u fun e => { e with key := I (u : Int), val := wdv h }) = (ents 0 (hs.set u h)).toArray := by
    have := ents_set hs h 0 u
    rw [Nat.zero_add] at this
    rw [← this]; simp
  have h4 : (Instr.keyThatStays (I u) (I u)).run P w = .ok (I u) w := by simp [Instr.keyThatStays, Instr.sameBits]
  simp only [Instr.mapUpdate, Sem.run_bind, Result.andThen_ok, run_underlying ht, run_getMap hm, mapObj, run_checkKey hk, h1, List.getElem?_toArray, h2, Option.map_some, Option.getD_some, h4, h3]
  rw [run_setObj hm (by intro c t f e; cases e)]
  simp
theorem run_mapUpdate_new {w : World} {t key elem : TypeId} {m : Nat} {hs : List (Int × Int)} {h : Int × Int} (ht : P.underlying t = some (.map key elem)) (hk : P.underlying key = some (.int .i64)) (hm : mapAt w m hs) :
    (Instr.mapUpdate t (.map (some m)) (I hs.length) (wdv h)).run P w = .ok () (putObj w m (mapObj (hs ++ [h]))) := by
  have h1 := run_findKey (P := P) (w := w) hk hs.length hs
  rw [if_neg (by omega)] at h1
  have h3 : ((ents 0 hs).toArray.push { key := I hs.length, val := wdv h, born := hs.length }) = (ents 0 (hs ++ [h])).toArray := by
    rw [ents_snoc, Nat.zero_add]; simp
  simp only [Instr.mapUpdate, Sem.run_bind, Result.andThen_ok, run_underlying ht, run_getMap hm, mapObj, run_checkKey hk, h1, h3]
  rw [run_setObj hm (by intro c t f e; cases e)]
  simp
theorem run_len_map {w : World} {t key elem : TypeId} {m : Nat} {hs : List (Int × Int)} (ht : P.underlying t = some (.map key elem)) (hm : mapAt w m hs) (ty : TypeId) :
    (Builtin.len_ #[t] ty #[.map (some m)]).run P w = .ok (I hs.length) w := by
  simp [Builtin.len_, run_underlying ht, run_getMap hm, mapObj, ents_len, goInt]
theorem run_range_map {w : World} {t key elem : TypeId} {m : Nat} {hs : List (Int × Int)} (ht : P.underlying t = some (.map key elem)) (hm : mapAt w m hs) :
    (Instr.range t (.map (some m))).run P w = .ok (.pointer (some ⟨w.heap.size, 0, none⟩)) (w.alloc (.mapIter (some m) hs.length #[] hs.length)) := by
  simp only [Instr.range, Sem.run_bind, run_underlying ht, run_getMap hm, mapObj, Result.andThen_ok, Sem.run_pure]
  rfl
def iterAt (w : World) (it m n : Nat) (seen : Array Nat) : Prop := w.heap[it]? = some (.mapIter (some m) n seen n)
theorem run_next_over {w : World} {it m : Nat} {hs : List (Int × Int)} {seen : Array Nat} (hm : mapAt w m hs) (hi : iterAt w it m hs.length seen) (hall : ∀ j, j < hs.length → j ∈ seen) (ty : TypeId) :
    (Instr.next (.pointer (some ⟨it, 0, none⟩)) false ty).run P w = .ok (.tuple #[.bool false]) w := by
  unfold iterAt at hi
  have hf : (ents 0 hs).filter (fun e => !seen.contains e.born) = [] := by
    rw [List.filter_eq_nil_iff]
    intro e he
    obtain ⟨j, hj⟩ := List.mem_iff_getElem?.1 he
    rw [ents_get] at hj
    obtain ⟨h, hh, rfl⟩ := Option.map_eq_some_iff.1 hj
    have := (List.getElem?_eq_some_iff.1 hh).1
    have := hall j this
    simpa using this
  have hg : (getObj it).run P w = .ok (.mapIter (some m) hs.length seen hs.length) w := by simp [getObj, Sem.run, hi]
  have hb : (!seen.isEmpty && !(ents 0 hs).toArray.isEmpty && (ents 0 hs).toArray.all (fun e => decide (e.born ≥ hs.length))) = false := by
    cases hs with
    | nil => simp [ents]
    | cons h t => simp [ents]
  simp only [Instr.next, Sem.run_bind, Result.andThen_ok, hg, run_getMap hm, mapObj, hb, Bool.false_eq_true, if_false, List.filter_toArray, hf]
  simp [choose, Sem.run, Question.forced]
theorem run_next_some {w : World} {it m : Nat} {hs : List (Int × Int)} {seen : Array Nat} (hm : mapAt w m hs) (hi : iterAt w it m hs.length seen) (hne : ∃ j, j < hs.length ∧ j ∉ seen) (ty : TypeId) :
    ∃ j n, j < hs.length ∧ j ∉ seen ∧ (Instr.next (.pointer (some ⟨it, 0, none⟩)) false ty).run P w =
      .ok (.tuple #[.bool true, I (j : Int), wdv (hs.getD j (0, 0))]) (putObj (w.drewN n) it (.mapIter (some m) hs.length (seen.push j) hs.length)) := by
  unfold iterAt at hi
  have hg : (getObj it).run P w = .ok (.mapIter (some m) hs.length seen hs.length) w := by simp [getObj, Sem.run, hi]
  have hb : (!seen.isEmpty && !(ents 0 hs).toArray.isEmpty && (ents 0 hs).toArray.all (fun e => decide (e.born ≥ hs.length))) = false := by
    cases hs with
    | nil => simp [ents]
    | cons h t => simp [ents]
  obtain ⟨j0, hj0, hjs⟩ := hne
  have hmem : ∀ e ∈ (ents 0 hs).filter (fun e => !seen.contains e.born), ∃ j, j < hs.length ∧ j ∉ seen ∧ e = ⟨I (j : Int), wdv (hs.getD j (0, 0)), j⟩ := by
    intro e he
    obtain ⟨h1, h2⟩ := List.mem_filter.1 he
    obtain ⟨j, hj⟩ := List.mem_iff_getElem?.1 h1
    rw [ents_get] at hj
    obtain ⟨h, hh, rfl⟩ := Option.map_eq_some_iff.1 hj
    refine ⟨j, (List.getElem?_eq_some_iff.1 hh).1, by simpa using h2, ?_⟩
    simp [List.getD_eq_getElem?_getD, hh]
  have hold : ((ents 0 hs).filter (fun e => !seen.contains e.born)).filter (fun e => decide (e.born < hs.length)) = (ents 0 hs).filter (fun e => !seen.contains e.born) := by
    rw [List.filter_eq_self]
    intro e he
    obtain ⟨j, hj, _, rfl⟩ := hmem e he
    simpa using hj
  have hnew : ((ents 0 hs).filter (fun e => !seen.contains e.born)).filter (fun e => decide (e.born ≥ hs.length)) = [] := by
    rw [List.filter_eq_nil_iff]
    intro e he
    obtain ⟨j, hj, _, rfl⟩ := hmem e he
    simpa using hj
  generalize hL : (ents 0 hs).filter (fun e => !seen.contains e.born) = L at *
  have hLne : 0 < L.length := by
    have : (⟨I (j0 : Int), wdv hs[j0], j0⟩ : MapEntry) ∈ L := by
      rw [← hL]
      refine List.mem_filter.2 ⟨List.mem_iff_getElem?.2 ⟨j0, ?_⟩, by simpa using hjs⟩
      rw [ents_get, List.getElem?_eq_getElem hj0]; simp
    exact List.length_pos_of_mem this
  have hemp : L.toArray.isEmpty = false := by simp; intro e; rw [e] at hLne; simp at hLne
  have hset : ∀ (w' : World) (o' : Obj), w'.heap = w.heap → (setObj it o').run P w' = .ok () (putObj w' it o') := fun w' o' e => run_setObj (o := .mapIter (some m) hs.length seen hs.length) (by rw [e]; exact hi) (by intro c t f e; cases e)
  have key : ∀ i, i < L.length → ∃ j, j < hs.length ∧ j ∉ seen ∧ (L.toArray.map some)[i]? = some (some (⟨I (j : Int), wdv (hs.getD j (0, 0)), j⟩ : MapEntry)) := by
    intro i hi
    obtain ⟨j, h1, h2, h3⟩ := hmem L[i] (List.getElem_mem hi)
    exact ⟨j, h1, h2, by simp [hi, h3]⟩
  by_cases h1 : L.length ≤ 1
  · obtain ⟨j, hj1, hj2, hj3⟩ := key 0 hLne
    refine ⟨j, 0, hj1, hj2, ?_⟩
    simp only [Instr.next, Sem.run_bind, Result.andThen_ok, hg, run_getMap hm, mapObj, hb, Bool.false_eq_true, if_false, List.filter_toArray, hL, hold, hnew, hemp, Array.append_empty, Array.empty_append]
    simp only [choose, Sem.run, Question.forced, Array.size_map, List.size_toArray, h1, decide_true, if_true, Result.andThen_ok, hj3, Sem.run_bind]
    rw [hset _ _ rfl]
    rfl
  · obtain ⟨j, hj1, hj2, hj3⟩ := key ((Question.mapNext L.length).cut (w.tape w.drawn (.mapNext L.length))) (by simp [Question.cut]; exact Nat.mod_lt _ hLne)
    refine ⟨j, 1, hj1, hj2, ?_⟩
    simp only [Instr.next, Sem.run_bind, Result.andThen_ok, hg, run_getMap hm, mapObj, hb, Bool.false_eq_true, if_false, List.filter_toArray, hL, hold, hnew, hemp, Array.append_empty, Array.empty_append]
    simp only [choose, Sem.run, Question.forced, Array.size_map, List.size_toArray, h1, decide_false, Bool.false_eq_true, if_false, Result.andThen_ok, hj3, Sem.run_bind]
    rw [hset { heap := w.heap, tape := w.tape, drawn := w.drawn + 1, os := w.os, output := w.output } _ rfl]
    rfl
end Go.Proofs.Ytimdaceidhdaeaa

namespace Go.Proofs.Ytimdaceidhdaeaa
open Go.RowKit Go.Conc

/-- What is left of a region, number by number. -/
def OpsAt (P : Program) (ops : Array Oper) (Q : Exit → Act → World → Prop) (l : List Nat) (a : Act) (w : World) : Prop :=
  ∀ (b : Frame) (k : List Item) (cs : List Frame), ∃ e a' w', Q e a' w' ∧ Arrives P (lone (b.at a (.inRegion ops l :: k)) cs w) b k cs e a' w'
section
variable {P : Program} {ops : Array Oper} {Q : Exit → Act → World → Prop} {a : Act} {w : World} {o : Oper} {i : Nat} {rest : List Nat}
theorem wp_region_at {id : Nat} (h : OpsAt P ops Q (List.range ops.size) a w) : (Code.region id ops false).wp P Q a w :=
  fun b k cs => let ⟨e, a', w', q, r⟩ := h b k cs; ⟨e, a', w', q, .of_steps (.one step_region) r⟩
theorem wp_region_draw_at {id : Nat} (h : ∀ t, OpsAt P ops Q (Region.schedule (P.follows .mixedOrders) ops t) a w.drew) : (Code.region id ops true).wp P Q a w :=
  fun b k cs => let ⟨e, a', w', q, r⟩ := h _ b k cs; ⟨e, a', w', q, .of_steps (.one step_region_draw) r⟩
theorem OpsAt.nil (h : Q .normal a w) : OpsAt P ops Q [] a w := fun b k cs => ⟨.normal, a, w, h, .one step_region_end⟩
theorem OpsAt.list {l : List Oper} {n k : Nat} (hl : l.length = n) (hk : ∀ j, l[j]? = ops[k + j]?) (h : wpList P ops Q l a w) : OpsAt P ops Q (List.range' k n) a w := by
  subst hl
  rw [← wpOps_eq_wpList l k hk] at h
  exact fun b k cs => wp_ops _ a w h b k cs
theorem OpsAt.from {l : List Oper} (k : Nat) (h : wpList P l.toArray Q (l.drop k) a w) : OpsAt P l.toArray Q (List.range' k (l.length - k)) a w :=
  OpsAt.list (l := l.drop k) (by simp) (fun j => by simp [List.getElem?_drop]) h
theorem OpsAt.value {v : Value} {w' : World} (ho : ops[i]? = some o) (hg : o.guard = none) (hr : (execOp a.eval o).run P w = .ok (.value v) w') (h : OpsAt P ops Q rest (a.put o.dst v) w') : OpsAt P ops Q (i :: rest) a w := by
  intro b k cs
  have hw : Region.wanted o (yielded ops a.tmps) = true := by simp [Region.wanted, hg]
  have hgo := stepG_op (P := P) (b := b) (k := k) (cs := cs) (w := w) (rest := rest) ho hw
  have hfin : (b.at a (.inRegion ops (i :: rest) :: k)).finish v = b.at (a.put o.dst v) (.inRegion ops rest :: k) := by rw [Frame.finish_at, ho]; rfl
  obtain ⟨e, a', w'', hq, harr⟩ := h b k cs
  refine ⟨e, a', w'', hq, .of_steps (.one (step_lone_go ?_)) harr⟩
  rw [hgo, ← hfin]; simp [stepG.apply, hr]
theorem OpsAt.quiet {v : Value} (ho : ops[i]? = some o) (hg : o.guard = none) (hr : (execOp a.eval o).run P w = .ok (.value v) w) (h : OpsAt P ops Q rest (a.put o.dst v) w) : OpsAt P ops Q (i :: rest) a w := OpsAt.value ho hg hr h
theorem stepG_comm_any {b : Frame} {k : List Item} {cs : List Frame} {cases : Array CommCase} {blocking : Bool} {shape : CommShape} {w' : World} (ho : ops[i]? = some o) (hw : Region.wanted o (yielded ops a.tmps) = true)
    (hr : (execOp a.eval o).run P w = .ok (.comm cases blocking shape) w') :
    ∃ es, stepG P true (G (b.at a (.inRegion ops (i :: rest) :: k)) cs) w = .comm (G (b.at a (.inRegion ops (i :: rest) :: k)) cs) cases blocking shape w' es := by
  rw [stepG_oper ho hw]
  simp [stepG.apply, hr, G, Frame.at, GStep.after]
/-- A step of communication, told by what the machine of one does. -/
theorem OpsAt.comm {v : Value} {w' w'' : World} {cases : Array CommCase} {blocking : Bool} {shape : CommShape} (ho : ops[i]? = some o) (hg : o.guard = none)
    (hr : (execOp a.eval o).run P w = .ok (.comm cases blocking shape) w')
    (hs : ∀ (fr : Frame) (cs : List Frame) (es : Array Event), stepG P true (G fr cs) w = .comm (G fr cs) cases blocking shape w' es → step P (solo (G fr cs) w) = .next (solo (G (fr.finish v) cs) w''))
    (h : OpsAt P ops Q rest (a.put o.dst v) w'') : OpsAt P ops Q (i :: rest) a w := by
  intro b k cs
  have hw : Region.wanted o (yielded ops a.tmps) = true := by simp [Region.wanted, hg]
  obtain ⟨es, he⟩ := stepG_comm_any (b := b) (k := k) (cs := cs) (rest := rest) ho hw hr
  have hfin : (b.at a (.inRegion ops (i :: rest) :: k)).finish v = b.at (a.put o.dst v) (.inRegion ops rest :: k) := by rw [Frame.finish_at, ho]; rfl
  obtain ⟨e, a', w3, hq, harr⟩ := h b k cs
  refine ⟨e, a', w3, hq, .of_steps (.one ?_) harr⟩
  have := hs _ cs es he
  rw [hfin] at this
  exact this
theorem OpsAt.send {c cap s r : Nat} {buf : Array Value} {z v : Value} {tm : Bool} {w' : World} (ho : ops[i]? = some o) (hg : o.guard = none)
    (hr : (execOp a.eval o).run P w = .ok (.comm #[scase c v z] true .send) w') (hc : w'.heap[c]? = some (.chan cap buf false s r tm)) (hroom : buf.size < cap)
    (h : OpsAt P ops Q rest (a.put o.dst undef) (w'.setChan c cap (buf.push v) false (s + 1) r tm)) : OpsAt P ops Q (i :: rest) a w :=
  OpsAt.comm ho hg hr (fun _ _ _ he => step_lone_send_room he hc hroom) h
theorem OpsAt.recv {c cap s r : Nat} {buf : Array Value} {z : Value} {tm closed : Bool} {w' : World} (ho : ops[i]? = some o) (hg : o.guard = none)
    (hr : (execOp a.eval o).run P w = .ok (.comm #[rcase c z] true (.recv false)) w') (hc : w'.heap[c]? = some (.chan cap buf closed s r tm)) (hsome : 0 < buf.size)
    (h : OpsAt P ops Q rest (a.put o.dst (buf.getD 0 undef)) (w'.setChan c cap (buf.extract 1 buf.size) closed s (r + 1) tm)) : OpsAt P ops Q (i :: rest) a w :=
  OpsAt.comm ho hg hr (fun _ _ _ he => step_lone_recv_buf false he hc hsome) h
theorem OpsAt.sel_recv {c cap s r : Nat} {buf : Array Value} {z : Value} {tm closed : Bool} {w' : World} (ho : ops[i]? = some o) (hg : o.guard = none)
    (hr : (execOp a.eval o).run P w = .ok (.comm #[rcase c z] false .select) w') (hc : w'.heap[c]? = some (.chan cap buf closed s r tm)) (hsome : 0 < buf.size)
    (h : OpsAt P ops Q rest (a.put o.dst (.tuple #[goInt 0, .bool true, buf.getD 0 undef])) (w'.setChan c cap (buf.extract 1 buf.size) closed s (r + 1) tm)) : OpsAt P ops Q (i :: rest) a w :=
  OpsAt.comm ho hg hr (fun _ _ _ he => step_lone_select_recv_buf he hc hsome) h
theorem OpsAt.sel_none {c cap s r : Nat} {z : Value} {tm : Bool} {w' : World} (ho : ops[i]? = some o) (hg : o.guard = none)
    (hr : (execOp a.eval o).run P w = .ok (.comm #[rcase c z] false .select) w') (hc : w'.heap[c]? = some (.chan cap #[] false s r tm))
    (h : OpsAt P ops Q rest (a.put o.dst (.tuple #[goInt (-1), .bool false, z])) w') : OpsAt P ops Q (i :: rest) a w :=
  OpsAt.comm ho hg hr (fun _ _ _ he => step_lone_select_default he hc) h
theorem exec_select_recv {c : Nat} {z : Value} {x : Operand} {e : TypeId} {b : Bool} (ho : o.op = .select #[{ chan := x, send := none, elem := e }] b) (hx : a.eval x = .chan (some c)) (hz : (zeroValue e).run P w = .ok z w) :
    (execOp a.eval o).run P w = .ok (.comm #[rcase c z] b .select) w := by
  unfold execOp
  simp [ho, hx, hz, rcase]
theorem exec_send {c : Nat} {v : Value} {x y : Operand} (ho : o.op = .send x y) (hx : a.eval x = .chan (some c)) (hy : a.eval y = v) :
    (execOp a.eval o).run P w = .ok (.comm #[scase c v (.tuple #[])] true .send) w := by
  unfold execOp
  simp [ho, hx, hy, scase]
/-- All orders in which a region may run. -/
def orders (md : Region.Mode) (ops : Array Oper) : Nat → Array Bool → List (List Nat)
  | 0, _ => [[]]
  | fuel + 1, listed =>
    match Region.ready md ops listed with
    | [] => [[]]
    | i :: r => (i :: r).flatMap fun i => (orders md ops fuel (listed.setIfInBounds i true)).map (i :: ·)
theorem orders_sound {md : Region.Mode} : ∀ (fuel t : Nat) (listed : Array Bool), Region.linearise.go md ops fuel t listed [] ∈ orders md ops fuel listed := by
  intro fuel
  induction fuel with
  | zero => intro t listed; simp [Region.linearise.go, orders]
  | succ fuel ih =>
    intro t listed
    simp only [Region.linearise.go, orders]
    change (match (Region.ready md ops listed)[t % (Region.ready md ops listed).length]? with
      | some i => Region.linearise.go md ops fuel (t / (Region.ready md ops listed).length) (listed.setIfInBounds i true) [i]
      | none => [].reverse) ∈ _
    cases hi : (Region.ready md ops listed)[t % (Region.ready md ops listed).length]? with
    | none =>
      have hnil : Region.ready md ops listed = [] := by
        cases hr : Region.ready md ops listed with
        | nil => rfl
        | cons x xs =>
          rw [hr] at hi
          have hlt : t % (x :: xs).length < (x :: xs).length := Nat.mod_lt _ (by simp)
          rw [List.getElem?_eq_getElem hlt] at hi
          cases hi
      rw [hnil]; simp
    | some i =>
      have hmem := List.mem_of_getElem? hi
      simp only []
      rw [linearise_go_acc, List.reverse_singleton, List.singleton_append]
      cases hr : Region.ready md ops listed with
      | nil => rw [hr] at hmem; cases hmem
      | cons x xs =>
        rw [hr] at hmem
        exact List.mem_flatMap.2 ⟨i, hmem, List.mem_map.2 ⟨_, ih _ _, rfl⟩⟩
theorem wp_region_orders {id : Nat} (hm : P.follows .mixedOrders = true) {L : List (List Nat)} (hL : orders .any ops ops.size (Array.replicate ops.size false) = L) (h : ∀ l ∈ L, OpsAt P ops Q l a w.drew) :
    (Code.region id ops true).wp P Q a w := by
  refine wp_region_draw_at fun t => ?_
  simp only [Region.schedule, hm, Bool.true_or, if_true]
  refine h _ ?_
  rw [← hL]
  exact orders_sound ops.size t _
end
end Go.Proofs.Ytimdaceidhdaeaa

namespace Go.Proofs.Ytimdaceidhdaeaa
open Go.RowKit Go.Proofs
def He.cells (h : He) (mb cb : Nat) : List Value := h.p.cells ++ (.chan (some cb) :: .map (some mb) :: (h.last.cells ++ [.bool h.got]))
/-- A head, as it lies: its block, its map's, its channel's. -/
structure HeadAt (w : World) (hb mb cb : Nat) (h : He) : Prop where
  row : w.heap[hb]? = some (.cells (h.cells mb cb).toArray 120 (0, 0))
  map : mapAt w mb h.hs
  chan : ∃ s r, w.heap[cb]? = some (.chan 200 (h.q.map En.v).toArray false s r false)
  ok : h.p.ok
theorem He.cells_len (h : He) (mb cb : Nat) (hp : h.p.ok) : (h.cells mb cb).length = 340 := by simp [He.cells, Po.cells_len _ hp, En.cells_len]
theorem He.at_ver (h : He) (mb cb : Nat) : (h.cells mb cb)[0]? = some (I h.p.ver) := by simp [He.cells, Po.cells]
theorem He.at_rest (h : He) (mb cb : Nat) (hp : h.p.ok) (j : Nat) : (h.cells mb cb)[330 + j]? = (.chan (some cb) :: .map (some mb) :: (h.last.cells ++ [.bool h.got]) : List Value)[j]? := by
  rw [He.cells, List.getElem?_append_right (by rw [Po.cells_len _ hp]; omega), Po.cells_len _ hp, Nat.add_sub_cancel_left]
theorem HeadAt.ver {w : World} {hb mb cb : Nat} {h : He} (H : HeadAt w hb mb cb h) : w.cell? ⟨hb, 0, none⟩ = some (I h.p.ver) := by
  rw [cell_of_row _ _ _ _ _ _ H.row, List.getElem?_toArray]; exact h.at_ver mb cb
theorem HeadAt.c330 {w : World} {hb mb cb : Nat} {h : He} (H : HeadAt w hb mb cb h) : w.cell? ⟨hb, 330, none⟩ = some (.chan (some cb)) := by
  rw [cell_of_row _ _ _ _ _ _ H.row, List.getElem?_toArray]; exact h.at_rest mb cb H.ok 0
theorem HeadAt.c331 {w : World} {hb mb cb : Nat} {h : He} (H : HeadAt w hb mb cb h) : w.cell? ⟨hb, 331, none⟩ = some (.map (some mb)) := by
  rw [cell_of_row _ _ _ _ _ _ H.row, List.getElem?_toArray]; exact h.at_rest mb cb H.ok 1
theorem HeadAt.c339 {w : World} {hb mb cb : Nat} {h : He} (H : HeadAt w hb mb cb h) : w.cell? ⟨hb, 339, none⟩ = some (.bool h.got) := by
  rw [cell_of_row _ _ _ _ _ _ H.row, List.getElem?_toArray]; exact h.at_rest mb cb H.ok 9
theorem HeadAt.last {w : World} {hb mb cb : Nat} {h : He} (H : HeadAt w hb mb cb h) (j : Nat) (hj : j < 7) : w.cell? ⟨hb, 332 + j, none⟩ = h.last.cells[j]? := by
  rw [cell_of_row _ _ _ _ _ _ H.row, List.getElem?_toArray, show 332 + j = 330 + (j + 1 + 1) by omega, h.at_rest mb cb H.ok, List.getElem?_cons_succ, List.getElem?_cons_succ, List.getElem?_append_left (by rw [En.cells_len]; exact hj)]
theorem HeadAt.pool {w : World} {hb mb cb : Nat} {h : He} (H : HeadAt w hb mb cb h) : w.rangeAt hb 0 h.p.cells := fun j v hv => by
  rw [cell_of_row _ _ _ _ _ _ H.row, List.getElem?_toArray, Nat.zero_add, He.cells, List.getElem?_append_left]
  · exact hv
  · exact (List.getElem?_eq_some_iff.1 hv).1
theorem HeadAt.kept {w w' : World} {hb mb cb : Nat} {h : He} (H : HeadAt w hb mb cb h) (k1 : w'.heap[hb]? = w.heap[hb]?) (k2 : w'.heap[mb]? = w.heap[mb]?) (k3 : w'.heap[cb]? = w.heap[cb]?) : HeadAt w' hb mb cb h :=
  ⟨k1.trans H.row, k2.trans H.map, by obtain ⟨s, r, hc⟩ := H.chan; exact ⟨s, r, k3.trans hc⟩, H.ok⟩
theorem HeadAt.lts {w : World} {hb mb cb : Nat} {h : He} (H : HeadAt w hb mb cb h) : hb < w.heap.size ∧ mb < w.heap.size ∧ cb < w.heap.size := by
  obtain ⟨s, r, hc⟩ := H.chan
  exact ⟨heap_lt H.row, heap_lt H.map, heap_lt hc⟩
theorem HeadAt.below {w w' : World} {hb mb cb : Nat} {h : He} (H : HeadAt w hb mb cb h) (hB : Below w.heap.size w w') : HeadAt w' hb mb cb h :=
  H.kept (hB.block _ H.lts.1) (hB.block _ H.lts.2.1) (hB.block _ H.lts.2.2)
/-! ### laws at an operation -/
section
variable {P : Program} {ops : Array Oper} {Q : Exit → Act → World → Prop} {rest : List Oper} {o : Oper} {a : Act} {w : World}
theorem wpList_range_run (hg : o.guard = none) (t : TypeId) (x : Operand) (ho : o.op = .range t x) (m : Value) (hx : a.eval x = m) (v : Value) (w' : World) (hr : (Instr.range t m).run P w = .ok v w')
    (h : wpList P ops Q rest (a.put o.dst v) w') : wpList P ops Q (o :: rest) a w :=
  wpList_plain hg fun K hK => by
    unfold Oper.wp execOp
    simp only [ho, hx, Sem.run_bind, hr, Result.andThen_ok, Sem.run_pure]
    exact hK _ _ h
theorem wpList_next_run (hg : o.guard = none) (x : Operand) (b : Bool) (ho : o.op = .next x b) (m : Value) (hx : a.eval x = m) (v : Value) (w' : World) (hr : (Instr.next m b o.type).run P w = .ok v w')
    (h : wpList P ops Q rest (a.put o.dst v) w') : wpList P ops Q (o :: rest) a w :=
  wpList_plain hg fun K hK => by
    unfold Oper.wp execOp
    simp only [ho, hx, Sem.run_bind, hr, Result.andThen_ok, Sem.run_pure]
    exact hK _ _ h
theorem wpList_entry_run (hg : o.guard = none) (x : Operand) (ho : o.op = .entry x) (m : Value) (hx : a.eval x = m) (v : Value) (w' : World) (hr : (Instr.entry m).run P w = .ok v w')
    (h : wpList P ops Q rest (a.put o.dst v) w') : wpList P ops Q (o :: rest) a w :=
  wpList_plain hg fun K hK => by
    unfold Oper.wp execOp
    simp only [ho, hx, Sem.run_bind, hr, Result.andThen_ok, Sem.run_pure]
    exact hK _ _ h
theorem wpList_lookup_run (hg : o.guard = none) (t : TypeId) (x ix : Operand) (ok : Bool) (ho : o.op = .lookup t x ix ok) (m i : Value) (hx : a.eval x = m) (hi : a.eval ix = i) (v : Value) (hr : (Instr.lookup t m i ok).run P w = .ok v w)
    (h : wpList P ops Q rest (a.put o.dst v) w) : wpList P ops Q (o :: rest) a w :=
  wpList_plain hg fun K hK => by
    unfold Oper.wp execOp
    simp only [ho, hx, hi, Sem.run_bind, hr, Result.andThen_ok, Sem.run_pure]
    exact hK _ _ h
theorem wpList_mapUpdate_run (hg : o.guard = none) (t : TypeId) (x ix y : Operand) (ho : o.op = .mapUpdate t x ix y) (m i u : Value) (hx : a.eval x = m) (hi : a.eval ix = i) (hy : a.eval y = u) (w' : World) (hr : (Instr.mapUpdate t m i u).run P w = .ok () w')
    (h : wpList P ops Q rest (a.put o.dst undef) w') : wpList P ops Q (o :: rest) a w :=
  wpList_plain hg fun K hK => by
    unfold Oper.wp execOp
    simp only [ho, hx, hi, hy, Sem.run_bind, hr, Result.andThen_ok, Sem.run_pure]
    exact hK _ _ h
end
theorem run_entry_word {P : Program} {w : World} {it m j : Nat} {hs : List (Int × Int)} {seen : Array Nat} (hm : mapAt w m hs) (hi : iterAt w it m hs.length seen) (hb : seen.back? = some j) (hj : j < hs.length) :
    (Instr.entry (.pointer (some ⟨it, 0, none⟩))).run P w = .ok (.tuple #[I (j : Int), wdv (hs.getD j (0, 0))]) w := by
  unfold iterAt at hi
  have hg : (getObj it).run P w = .ok (.mapIter (some m) hs.length seen hs.length) w := by simp [getObj, Sem.run, hi]
  have hf : (ents 0 hs).find? (fun e => e.born == j) = some ⟨I (j : Int), wdv (hs.getD j (0, 0)), j⟩ := by
    have key : ∀ (hs : List (Int × Int)) (i d : Nat), d < hs.length → (ents i hs).find? (fun e => e.born == i + d) = some ⟨I ((i + d : Nat) : Int), wdv (hs.getD d (0, 0)), i + d⟩ := by
      intro hs
      induction hs with
      | nil => intro i d h; simp at h
      | cons h t ih =>
        intro i d hd
        cases d with
        | zero => simp [ents]
        | succ d =>
          have := ih (i + 1) d (by simpa using hd)
          rw [show i + 1 + d = i + (d + 1) by omega] at this
          simp [ents, this]
    have := key hs 0 j hj
    rw [Nat.zero_add] at this
    exact this
  simp [Instr.entry, hg, hb, run_getMap hm, mapObj, hf]
end Go.Proofs.Ytimdaceidhdaeaa
