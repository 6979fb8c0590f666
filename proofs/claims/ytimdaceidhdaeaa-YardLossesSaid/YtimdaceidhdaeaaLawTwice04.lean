/- Proved: lemmas that the law's proof stands on (Sip3, Sip4, Sip5, WheelS, WheelK). Conditions: as each states. -/
import Derived.Laws.Closers25b
import Derived.Test.YtimdaceidhdaeaaLawTwice01
import Derived.Test.YtimdaceidhdaeaaLawTwice03

namespace Go.Proofs.Ytimdaceidhdaeaa
open Go.RowKit Go.Proofs

theorem bdn {B : Nat} {a w : World} (h : Below B a w) (n : Nat) : Below B a (w.drewN n) := ⟨h.os, h.tape, h.output, h.size, h.block⟩

def lenOf : Value → Nat
  | .slice _ n _ => n
  | _ => 0

theorem getD_drop_take (bs : List Int) (o n i : Nat) (h : i < n) : ((bs.drop o).take n).getD i 0 = bs.getD (o + i) 0 := by
  simp [List.getD_eq_getElem?_getD, h]
theorem getD_drop (bs : List Int) (o i : Nat) : (bs.drop o).getD i 0 = bs.getD (o + i) 0 := by
  simp [List.getD_eq_getElem?_getD]

set_option maxHeartbeats 1000000 in
theorem sip_Of (k : Ke) (bs : List Int) (A : Option Addr) (b off c : Nat) (w : World) (hm : bs.length ≤ 1000000000) (hcap : bs.length ≤ c)
    (hA : 0 < bs.length → A = some ⟨b, off, none⟩ ∧ b < w.heap.size) (hb : ∀ i, 0 ≤ bs.getD i 0 ∧ bs.getD i 0 ≤ 255) (hc : ∀ i, i < bs.length → w.cell? ⟨b, off + i, none⟩ = some (.int .u8 (bs.getD i 0))) :
    Calls Try.prog 89 #[k.v, .slice A bs.length c] w fun e w' => e = .returned (.int .u64 (ofB k bs)) ∧ Below w.heap.size w w' := by
  unfold Ke.v
  generalize hN : bs.length = N at *
  have HN := Lib.hid hN
  clear hN
  go_enter Try.func89, Try.ntmps89
  go_wp2_with fail
  refine wp_gen (fun w1 => Below w.heap.size w w1 ∧ w1.heap.size = w.heap.size + 2 ∧ w1.heap[w.heap.size + 1]? = some (.cells (St.start k).cells 183 (0, 0))) ?_ ?_
  · refine ⟨((Below.refl _ _).alloc (Nat.le_refl _) _).alloc (by simp) _, by simp, ?_⟩
    exact heap_alloc2_new _ _ _
  rintro W0 ⟨hB, hS, hg0⟩
  have hp0 := Put.refl hg0
  clear hg0
  obtain ⟨g, hg⟩ : ∃ g, g = w.heap.size + 1 := ⟨_, rfl⟩
  rw [← hg] at hp0 ⊢
  have hc0 : ∀ i, i < N → W0.cell? ⟨b, off + i, none⟩ = some (.int .u8 (bs.getD i 0)) := fun i hi => by
    rw [hB.cell (hA (by omega)).2]; exact hc i hi
  have hgb : 0 < N → b ≠ g := fun h => by have := (hA h).2; omega
  have hgB : w.heap.size ≤ g := by omega
  have hA1 : 0 < N → A = some ⟨b, off, none⟩ := fun h => (hA h).1
  clear hc hA hg hS
  go_loopw [6] (fun r wr => ∃ j A', 8 * j ≤ N ∧ r = .slice A' (N - 8 * j) (c - 8 * j) ∧ (8 * j < N → A' = some ⟨b, off + 8 * j, none⟩) ∧ Put g (.cells ((St.start k).eat bs j).cells 183) W0 wr) (fun r _ => lenOf r)
  case atStart => exact ⟨0, A, by omega, rfl, fun h => hA1 (by omega), hp0⟩
  case round =>
    obtain ⟨j, A', hj, rfl, hA', hp⟩ := hrel
    by_cases hlt : 8 * j + 8 ≤ N
    · have hA2 := hA' (by omega)
      clear hA'
      subst hA2
      have hne := hgb (by omega)
      have hcj : ∀ i, i < ((bs.drop (8 * j)).take 8).length → wr.cell? ⟨b, off + 8 * j + i, none⟩ = some (.int .u8 (((bs.drop (8 * j)).take 8).getD i 0)) := fun i hi => by
        have hi8 : i < 8 := by simp at hi; omega
        rw [getD_drop_take _ _ _ _ hi8, World.cell?_of_block (w := W0) (hp.other hne), Nat.add_assoc]
        exact hc0 _ (by omega)
      have hl8 : ((bs.drop (8 * j)).take 8).length = 8 := by have := HN.out; simp; omega
      have hb8 : ∀ i, 0 ≤ ((bs.drop (8 * j)).take 8).getD i 0 ∧ ((bs.drop (8 * j)).take 8).getD i 0 ≤ 255 := fun i => by
        by_cases h8 : i < 8
        · rw [getD_drop_take _ _ _ _ h8]; exact hb _
        · rw [show ((bs.drop (8 * j)).take 8).getD i 0 = 0 from by simp [List.getD_eq_getElem?_getD, List.getElem?_take, h8]]; omega
      have hnum := fun c' w0 => sip_number ((bs.drop (8 * j)).take 8) b (off + 8 * j) c' w0 (by omega) hb8
      rw [hl8] at hnum hcj
      have HC := Lib.hid hcj
      have HNU := Lib.hid hnum
      have HP := Lib.hid hp
      clear hcj hnum hp hb8 hb hc0 hA1 hgb hne
      have hcj8 : 8 ≤ c - 8 * j := by omega
      have hcj9 : 8 ≤ N - 8 * j := by omega
      go_wp2_with (first | (go_at_call 94; refine (HNU.out _ _ HC.out).mono ?_; rintro e w1 ⟨rfl, rfl⟩) | (go_at_call 93; refine (sip_take g _ _ _ HP.out.get).mono ?_; rintro e w1 ⟨rfl, hp1⟩))
      all_goals
        have h6 := HP.out.trans hp1
        go_roundw
        case rel =>
          refine ⟨j + 1, _, by omega, by rw [show N - 8 * (j + 1) = N - 8 * j - 8 by omega, show c - 8 * (j + 1) = c - 8 * j - 8 by omega], fun h => ?_, by rw [St.eat_succ]; exact h6⟩
          rw [if_neg (by omega), show off + 8 * (j + 1) = off + 8 * j + 8 by omega]
        case measure => simp [lenOf]; omega
    · have hj8 : N / 8 = j := by omega
      have hld : (bs.drop (8 * j)).length = N - 8 * j := by have := HN.out; simp; omega
      have hnum : Calls Try.prog 94 #[.slice A' (N - 8 * j) (c - 8 * j)] wr fun e w' => e = .returned (.int .u64 (num (bs.drop (8 * j)))) ∧ w' = wr := by
        by_cases h0 : 8 * j < N
        · have hA2 := hA' h0
          subst hA2
          rw [← hld]
          refine sip_number (bs.drop (8 * j)) b (off + 8 * j) _ wr (by omega) (fun i => by rw [getD_drop]; exact hb _) (fun i hi => ?_)
          rw [getD_drop, World.cell?_of_block (w := W0) (hp.other (hgb (by omega))), Nat.add_assoc]
          exact hc0 _ (by omega)
        · have hz : bs.drop (8 * j) = [] := List.eq_nil_of_length_eq_zero (by omega)
          rw [hz, show N - 8 * j = 0 by omega]
          exact sip_number0 _ _ _
      have HNU := Lib.hid hnum
      have HP := Lib.hid hp
      have HJ := Lib.hid hj8
      clear hnum hp hb hc0 hA1 hgb hA' hld hj8 hp0
      have hlt2 : ((N - 8 * j : Nat) : Int) < 8 := by omega
      go_wp2_with (go_at_call 94; refine HNU.out.mono ?_; rintro e w1 ⟨rfl, rfl⟩)
      refine (sip_take g _ _ _ HP.out.get).mono ?_
      rintro e w1 ⟨rfl, hp1⟩
      have hq := HP.out.trans hp1
      clear hp1 HP HNU
      generalize ht : St.take _ _ = t at hq
      have HT := Lib.hid ht
      clear ht
      have c2 := hq.cellAt 2 (v := .int .u64 t.c) rfl
      have f2 := hq.fz 2
      go_wp2_with fail
      refine (sip_rounds g 4 { t with c := xo t.c 255 } _ (by omega) ((hq.setCell 2 _).of rfl).get).mono ?_
      rintro e w2 ⟨rfl, hp2⟩
      have hr := ((hq.setCell 2 (.int .u64 (xo t.c 255))).of (o' := .cells (St.cells { t with c := xo t.c 255 }) 183) rfl).trans hp2
      clear hq hp2 c2 f2
      generalize hu : St.rounds { t with c := xo t.c 255 } 4 = u at hr
      have HU := Lib.hid hu
      clear hu
      have c0 := hr.cellAt 0 (v := .int .u64 u.a) rfl
      have c1 := hr.cellAt 1 (v := .int .u64 u.b) rfl
      have c2 := hr.cellAt 2 (v := .int .u64 u.c) rfl
      have c3 := hr.cellAt 3 (v := .int .u64 u.d) rfl
      go_wp2_with fail
      go_quiet (fail)
      go_wp2_with fail
      go_ret
      refine ⟨?_, bdn (hB.trans (hr.below hgB)) _⟩
      have hres : ofB k bs = xo (xo (xo u.a u.b) u.c) u.d := by
        unfold ofB St.fin
        rw [HN.out, HJ.out]
        have := HT.out
        simp only [Int.reducePow] at *
        rw [this, HU.out]
      rw [hres]
      rfl
end Go.Proofs.Ytimdaceidhdaeaa

namespace Go.Proofs.Ytimdaceidhdaeaa
open Go.RowKit Go.Proofs

def leb (n : Int) (j : Nat) : Int := IntKind.u64.wrap n / 2 ^ (8 * j) % 256
def bytesOf (l : List Int) : List Int := l.flatMap (fun n => (List.range 8).map (leb n))
def words (k : Ke) (l : List Int) : Int := ofB k (bytesOf l)
def part (l : List Int) (k j : Nat) : List Int := bytesOf (l.take k) ++ (List.range j).map (leb (l.getD k 0))
theorem bytesOf_len (l : List Int) : (bytesOf l).length = 8 * l.length := by
  induction l with
  | nil => rfl
  | cons a l ih => simp only [bytesOf, List.flatMap_cons, List.length_append] at *; rw [ih]; simp; omega
theorem part_zero (l : List Int) (k : Nat) : part l k 0 = bytesOf (l.take k) := by simp [part]
theorem part_succ (l : List Int) (k j : Nat) : part l k (j + 1) = part l k j ++ [leb (l.getD k 0) j] := by
  simp [part, List.range_succ]
theorem part_eight (l : List Int) (k : Nat) (h : k < l.length) : part l k 8 = bytesOf (l.take (k + 1)) := by
  simp only [part, bytesOf]
  rw [List.take_succ_eq_append_getElem h, List.flatMap_append]; simp [h]
theorem part_len (l : List Int) (k j : Nat) (h : k ≤ l.length) : (part l k j).length = 8 * k + j := by
  simp [part, bytesOf_len, Nat.min_eq_left h]
theorem leb_bd (n : Int) (j : Nat) : 0 ≤ leb n j ∧ leb n j ≤ 255 := by
  unfold leb
  generalize IntKind.u64.wrap n / 2 ^ (8 * j) = x
  omega
theorem bytesOf_bd (l : List Int) (i : Nat) : 0 ≤ (bytesOf l).getD i 0 ∧ (bytesOf l).getD i 0 ≤ 255 := by
  by_cases h : i < (bytesOf l).length
  · have hm : (bytesOf l).getD i 0 ∈ bytesOf l := by simp [List.getD_eq_getElem?_getD, h]
    generalize (bytesOf l).getD i 0 = x at hm
    simp only [bytesOf, List.mem_flatMap, List.mem_map] at hm
    obtain ⟨n, _, j, _, rfl⟩ := hm
    exact leb_bd n j
  · rw [show (bytesOf l).getD i 0 = 0 from by rw [List.getD_eq_getElem?_getD, List.getElem?_eq_none (by omega)]; rfl]; omega
theorem info5 : (Try.prog.info? 5).map (fun i => (i.zero, i.size, i.bytes)) = some (some (.int .u8 0), 1, 1) := by kernel_rfl

set_option maxHeartbeats 1000000 in
set_option maxRecDepth 100000 in
theorem sip_Words (k : Ke) (l : List Int) (b off c : Nat) (w : World) (hm : l.length ≤ 1000000) (hbw : b < w.heap.size) (hc : ∀ i, i < l.length → w.cell? ⟨b, off + i, none⟩ = some (.int .i64 (l.getD i 0))) :
    Calls Try.prog 87 #[k.v, .slice (some ⟨b, off, none⟩) l.length c] w fun e w' => e = .returned (.int .u64 (words k l)) ∧ Below w.heap.size w w' := by
  obtain ⟨i0, hi, hz0, hz1, hz2⟩ := info_parts info5
  unfold Ke.v
  go_enter Try.func87, Try.ntmps87
  have hM : 8 * l.length ≤ maxLen := by unfold maxLen; omega
  have HM := Lib.hid hM
  clear hM
  go_wp2_with (at_make; go_loud (refine wpList_make_own _ rfl _ _ 173 rfl (w.heap.size + 1) 5 i0 (.int .u8 0) 1 Try.underlying173 hi hz0 hz1 _ _ (8 * (l.length : Int)) (8 * l.length) rfl rfl (by omega) (by rw [hz2]; omega) HM.out (by simp) ?_); intro w1 hown hgr)
  have hB : Below w.heap.size w w1 := ((Below.refl _ _).alloc (Nat.le_refl _) _).grown hgr (by simp) (fun k h => by simp at h)
  have hkc : w1.heap[w.heap.size]? = some (.cells #[U k.a, U k.b] 29 (0, 0)) := by
    rw [hgr.block _ (by simp) (by simp)]; exact heap_alloc_new _ _
  have hsz : w.heap.size + 1 ≤ w1.heap.size := by have := hgr.size; simpa using this
  generalize hv0 : Value.slice (some ⟨(w.alloc (.cells #[U k.a, U k.b] 29)).heap.size, 0, none⟩) 0 (8 * l.length) = v0 at hown
  have hv0' : Value.slice (some ⟨w.heap.size + 1, 0, none⟩) 0 (8 * l.length) = v0 := by rw [← hv0]; simp
  rw [hv0']
  clear hv0 hv0'
  have hown0 : w1.ownsRow (w.heap.size + 1) 5 1 v0 (8 * 0) ((part l 0 0).map (Value.int .u8)) := by simpa [part, bytesOf] using hown
  clear hown hgr
  go_loopw [5, 15] (fun v i wr => ∃ q : Nat, q ≤ l.length ∧ i = .int .i64 q ∧ wr.ownsRow (w.heap.size + 1) 5 1 v (8 * q) ((part l q 0).map (Value.int .u8)) ∧ Below w.heap.size w wr ∧ wr.heap[w.heap.size]? = some (.cells #[U k.a, U k.b] 29 (0, 0))) (fun _ i _ => l.length - (intOf i).toNat)
  case atStart => exact ⟨0, by omega, rfl, hown0, hB, hkc⟩
  case round =>
    obtain ⟨q, hq, rfl, hown, hB1, hkb⟩ := hrel
    rename_i v _ _
    clear hB hkc hown0
    by_cases hlt : q < l.length
    · have h1 : wr.cell? ⟨b, off + q, none⟩ = some (.int .i64 (l.getD q 0)) := (hB1.cell hbw).trans (hc q hlt)
      generalize hx : l.getD q 0 = x at h1
      have HX := Lib.hid hx
      have HC := Lib.hid hc
      clear hx hc
      go_wp2_with fail
      obtain ⟨wo, rfl⟩ : ∃ wo : World, wo = wr := ⟨_, rfl⟩
      go_loopw [5, 19] (fun v i wr => ∃ j : Nat, j ≤ 8 ∧ i = .int .i64 j ∧ wr.ownsRow (w.heap.size + 1) 5 1 v (8 * q + j) ((part l q j).map (Value.int .u8)) ∧ Below w.heap.size w wr ∧ wr.heap[w.heap.size]? = some (.cells #[U k.a, U k.b] 29 (0, 0))) (fun _ i _ => 8 - (intOf i).toNat)
      case atStart => exact ⟨0, by omega, rfl, hown, hB1, hkb⟩
      case round =>
        obtain ⟨j, hj, rfl, hown, hB2, hkb2⟩ := hrel
        by_cases hlt2 : j < 8
        · go_wp2_with (at_builtin; go_loud (refine wpList_append_own _ rfl _ _ 173 rfl (w.heap.size + 1) 5 i0 (.int .u8 0) 1 1 Try.underlying173 hi hz0 hz1 hz2 rfl (by decide) _ _ _ rfl (hown.alloc _) ⟨wr.heap.size, 0, none⟩ 1 1 [.int .u8 (leb x j)] rfl rfl ?c1 ?c2 ?c3 ?c4 ?c5 ?_))
          case c1 =>
            intro j1 u hu
            match j1, hu with
            | 0, hu => simp at hu; subst hu; simp [Addr.add, leb]
          case c2 => intro u hu; simp at hu; subst hu; rfl
          case c3 => have := HM.out; unfold maxLen at *; omega
          case c4 => omega
          case c5 => have := hB2.size; simp; omega
          intro v' w2 hown' hgrow _
          have hB3 : Below w.heap.size w w2 := (hB2.alloc (by have := hB2.size; omega) _).grown hgrow (by have := hB2.size; simp; omega) (fun k hk => by have := (hown.lt k hk).1; omega)
          have hkb3 : w2.heap[w.heap.size]? = some (.cells #[U k.a, U k.b] 29 (0, 0)) := by
            rw [hgrow.block _ (by have := hB2.size; simp; have := (Array.getElem?_eq_some_iff.1 hkb2).1; omega) (fun e => by have := (hown.lt _ e.symm).1; omega), Below.heap_alloc _ _ _ (Array.getElem?_eq_some_iff.1 hkb2).1]
            exact hkb2
          have hown3 : w2.ownsRow (w.heap.size + 1) 5 1 v' (8 * q + (j + 1)) ((part l q (j + 1)).map (Value.int .u8)) := by
            rw [part_succ, HX.out, List.map_append]; exact hown'
          clear hown' hgrow hown hB2 hkb2
          go_wp2_with fail
          go_roundw
          case rel => exact ⟨j + 1, by omega, by go_num, hown3, hB3, hkb3⟩
          case measure => simp [intOf]; omega
        · have hj8 : j = 8 := by omega
          subst hj8
          have hown8 : wr.ownsRow (w.heap.size + 1) 5 1 u5 (8 * (q + 1)) ((part l (q + 1) 0).map (Value.int .u8)) := by
            rw [part_zero, ← part_eight l q hlt]; exact hown
          clear hown hj
          go_wp2_with fail
          go_roundw
          case rel => exact ⟨q + 1, by omega, by go_num, hown8, hB2, hkb2⟩
          case measure => simp [intOf]; omega
    · have hq' : q = l.length := by omega
      have hlen : (bytesOf l).length = 8 * l.length := bytesOf_len l
      have hown8 : wr.ownsRow (w.heap.size + 1) 5 1 u5 (8 * l.length) ((bytesOf l).map (Value.int .u8)) := by
        rw [hq', part_zero, List.take_length] at hown; exact hown
      clear hown hq
      have hlt' : l.length ≤ q := by omega
      subst hq'
      clear hlt hlt'
      obtain ⟨A, c', g, rfl, hcc, hA, hcell⟩ := own_read hown8
      have kc0 : wr.cell? ⟨w.heap.size, 0, none⟩ = some (U k.a) := by rw [cell_of_row _ _ _ _ _ _ hkb]; rfl
      have kc1 : wr.cell? ⟨w.heap.size, 1, none⟩ = some (U k.b) := by rw [cell_of_row _ _ _ _ _ _ hkb]; rfl
      have hcell2 : ∀ i, i < (bytesOf l).length → wr.cell? ⟨g, 0 + i, none⟩ = some (.int .u8 ((bytesOf l).getD i 0)) := fun i hi => by
        rw [hcell i (by omega), map_get _ _ 0 _ hi]
      have hOf := sip_Of k (bytesOf l) A g 0 c' wr (by omega) (by omega) (fun h => ⟨(hA (by omega)).1, (hA (by omega)).2.1⟩) (bytesOf_bd l) hcell2
      rw [hlen] at hOf
      have HOF := Lib.hid hOf
      clear hOf hcell2 hcell hA hown8 hlen hkb hc
      go_wp2_with (go_at_call 89; refine HOF.out.mono ?_; rintro e w3 ⟨rfl, hb3⟩)
      go_ret
      exact ⟨rfl, hB1.trans (hb3.mono hB1.size)⟩
end Go.Proofs.Ytimdaceidhdaeaa

namespace Go.Proofs.Ytimdaceidhdaeaa
open Go.RowKit Go.Proofs

theorem words_bd (k : Ke) (l : List Int) : 0 ≤ words k l ∧ words k l ≤ 18446744073709551615 := by
  unfold words ofB St.fin xo
  have h := bits_within .xor .u64
  simp only [IntKind.min, IntKind.max] at h
  exact h _ _

set_option maxHeartbeats 1000000 in
theorem spun_any (below : Int) (l : List Int) (b off c : Nat) (w : World) (hm : l.length ≤ 1000000) (hbw : b < w.heap.size) (h0 : 0 < below) (h1 : below ≤ 1000) (hc : ∀ i, i < l.length → w.cell? ⟨b, off + i, none⟩ = some (.int .i64 (l.getD i 0))) :
    Calls Try.prog 85 #[.int .u64 below, .slice (some ⟨b, off, none⟩) l.length c] w fun e w' => e = .returned (.int .i64 (words Ke.zero l % below)) ∧ Below w.heap.size w w' := by
  have HW := Lib.hid (sip_Words Ke.zero l b off c w hm hbw hc)
  clear hc
  go_enter Try.func85, Try.ntmps85
  go_wp2_with (go_at_call 87; refine HW.out.mono ?_; rintro e w3 ⟨rfl, hb3⟩)
  go_ret
  have hbd := words_bd Ke.zero l
  have h2 : words Ke.zero l % below < below := Int.emod_lt_of_pos _ h0
  have h3 : 0 ≤ words Ke.zero l % below := Int.emod_nonneg _ (by omega)
  refine ⟨?_, hb3⟩
  have e1 : (words Ke.zero l).tmod below = words Ke.zero l % below := Int.tmod_eq_emod_of_nonneg hbd.1
  have e2 : wrap64 ((words Ke.zero l).tmod below) = words Ke.zero l % below := by rw [e1]; unfold wrap64; omega
  simp [e2]
end Go.Proofs.Ytimdaceidhdaeaa

namespace Go.Proofs.Ytimdaceidhdaeaa

/-! The wheel, in plain Lean. -/
structure Wk where
  sl : Int
  pos : Int
  st : Int
  we : Int
  deriving DecidableEq, Inhabited
def Wk.cells (x : Wk) : List Value := [I x.sl, I x.pos, I x.st, I x.we]

def seek (w : List Int) (st : Int) : Nat → Int → Int
  | 0, a => a
  | f + 1, a => if w.getD a.toNat 0 = -1 then a else seek w st f ((a + st) % 127)

theorem seek_hit {w : List Int} {st a : Int} (f : Nat) (h : w.getD a.toNat 0 = -1) : seek w st (f + 1) a = a := by unfold seek; rw [if_pos h]
theorem seek_on {w : List Int} {st a : Int} (f : Nat) (h : ¬ w.getD a.toNat 0 = -1) : seek w st (f + 1) a = seek w st f ((a + st) % 127) := by rw [seek]; rw [if_neg h]

/-- Within f steps there is a free place. -/
def Near (w : List Int) (st : Int) (f : Nat) (a : Int) : Prop := ∃ n : Nat, n < f ∧ w.getD ((a + n * st) % 127).toNat 0 = -1
theorem Near.on {w : List Int} {st a : Int} {f : Nat} (h : Near w st (f + 1) a) (h0 : 0 ≤ a) (h1 : a < 127) (hn : ¬ w.getD a.toNat 0 = -1) : Near w st f ((a + st) % 127) := by
  obtain ⟨n, hn1, hn2⟩ := h
  cases n with
  | zero => rw [show (a + ((0 : Nat) : Int) * st) % 127 = a by simp; omega] at hn2; exact absurd hn2 hn
  | succ n =>
    refine ⟨n, by omega, ?_⟩
    rw [← hn2]
    congr 2
    rw [Int.emod_add_emod]
    congr 1
    rw [show ((n + 1 : Nat) : Int) = (n : Int) + 1 by omega, Int.add_mul]; omega
theorem Near.pos {w : List Int} {st a : Int} {f : Nat} (h : Near w st f a) : 0 < f := by obtain ⟨n, h, _⟩ := h; omega
theorem seek_free {w : List Int} {st : Int} : ∀ (f : Nat) (a : Int), 0 ≤ a → a < 127 → Near w st f a → 0 ≤ seek w st f a ∧ seek w st f a < 127 ∧ w.getD (seek w st f a).toNat 0 = -1
  | 0, a, _, _, h => by have := h.pos; omega
  | f + 1, a, h0, h1, h => by
    by_cases e : w.getD a.toNat 0 = -1
    · rw [seek_hit f e]; exact ⟨h0, h1, e⟩
    · rw [seek_on f e]
      exact seek_free f _ (by omega) (by omega) (h.on h0 h1 e)

theorem inv127 : ∀ s : Fin 127, s ≠ 0 → ∃ i : Fin 127, (s * i) = 1 := by decide +kernel
theorem reach (st a b : Int) (h0 : 1 ≤ st) (h1 : st ≤ 126) (hb : 0 ≤ b) (hb1 : b < 127) : ∃ n : Nat, n < 127 ∧ (a + n * st) % 127 = b := by
  obtain ⟨i, hi⟩ := inv127 ⟨st.toNat, by omega⟩ (by intro e; have := congrArg Fin.val e; simp at this; omega)
  have hi' : (st.toNat * i.val) % 127 = 1 := by have := congrArg Fin.val hi; simpa [Fin.mul_def] using this
  have hz : (st * (i.val : Int)) % 127 = 1 := by
    have : ((st.toNat * i.val : Nat) : Int) % 127 = 1 := by omega
    rwa [Int.natCast_mul, Int.toNat_of_nonneg (by omega)] at this
  refine ⟨(((b - a) * i.val) % 127).toNat, by omega, ?_⟩
  rw [Int.toNat_of_nonneg (by omega), Int.add_emod, Int.mul_emod, Int.emod_emod, ← Int.mul_emod, Int.mul_assoc, Int.mul_comm (i.val : Int) st, Int.mul_emod, hz]
  omega

theorem near_of {w : List Int} {st a : Int} (h0 : 1 ≤ st) (h1 : st ≤ 126) (hl : w.length = 127) (hc : 0 < w.count (-1)) : Near w st 127 a := by
  have hm := List.count_pos_iff.1 hc
  obtain ⟨j, hj, he⟩ := List.getElem_of_mem hm
  obtain ⟨n, hn, hr⟩ := reach st a j h0 h1 (by omega) (by omega)
  refine ⟨n, hn, ?_⟩
  rw [hr, List.getD_eq_getElem?_getD, Int.toNat_natCast, List.getElem?_eq_getElem hj, he]; rfl

abbrev WS := List Int × List Wk
def claim (k : Nat) (S : WS) : WS :=
  let x := S.2.getD k default
  let a := seek S.1 x.st 127 x.pos
  (S.1.set a.toNat x.sl, S.2.set k { x with pos := a })
def flatW (l : List Wk) : List Nat := l.zipIdx.flatMap fun x => List.replicate x.1.we.toNat x.2
def who (l : List Wk) (j : Nat) : Nat := (flatW l).getD (j % (flatW l).length) 0
def stat (l : List Wk) (w : List Int) : Nat → WS
  | 0 => (w, l)
  | j + 1 => claim (who l j) (stat l w j)
def empty127 : List Int := List.replicate 127 (-1)

structure Wk.ok (x : Wk) : Prop where
  sl0 : 0 ≤ x.sl
  sl1 : x.sl < 64
  p0 : 0 ≤ x.pos
  p1 : x.pos < 127
  s0 : 1 ≤ x.st
  s1 : x.st ≤ 126
  w0 : 1 ≤ x.we
  w1 : x.we ≤ 8
structure WS.ok (l : List Wk) (S : WS) (j : Nat) : Prop where
  len : S.1.length = 127
  cnt : S.1.count (-1) = 127 - j
  ll : S.2.length = l.length
  all : ∀ i, i < l.length → (S.2.getD i default).ok
  same : ∀ i, i < l.length → (S.2.getD i default).we = (l.getD i default).we ∧ (S.2.getD i default).sl = (l.getD i default).sl ∧ (S.2.getD i default).st = (l.getD i default).st

theorem claim_ok {l : List Wk} {S : WS} {j k : Nat} (h : S.ok l j) (hk : k < l.length) (hj : j < 127) : (claim k S).ok l (j + 1) ∧
    S.1.getD (seek S.1 (S.2.getD k default).st 127 (S.2.getD k default).pos).toNat 0 = -1 := by
  have hx := h.all k hk
  have hs := seek_free (w := S.1) (st := (S.2.getD k default).st) 127 (S.2.getD k default).pos hx.p0 hx.p1 (near_of hx.s0 hx.s1 h.len (by rw [h.cnt]; omega))
  refine ⟨?_, hs.2.2⟩
  generalize ha : seek S.1 (S.2.getD k default).st 127 (S.2.getD k default).pos = a at hs
  have hal : a.toNat < S.1.length := by rw [h.len]; omega
  have hget : S.1[a.toNat] = -1 := by have := hs.2.2; simpa [List.getD_eq_getElem?_getD, hal] using this
  have e : claim k S = (S.1.set a.toNat (S.2.getD k default).sl, S.2.set k { S.2.getD k default with pos := a }) := by simp only [claim, ha]
  rw [e]
  refine ⟨by simp [h.len], ?_, by simp [h.ll], ?_, ?_⟩
  · show (S.1.set a.toNat (S.2.getD k default).sl).count (-1) = _
    rw [List.count_set hal, h.cnt, hget]
    have h0 := hx.sl0
    have : ((S.2.getD k default).sl == -1) = false := by rw [beq_eq_false_iff_ne]; omega
    rw [this]; simp; omega
  · intro i hi
    show (List.getD (S.2.set k _) i default).ok
    by_cases e : k = i
    · subst e
      rw [show (S.2.set k { S.2.getD k default with pos := a }).getD k default = { S.2.getD k default with pos := a } by simp [List.getD_eq_getElem?_getD, h.ll, hk]]
      exact ⟨hx.sl0, hx.sl1, hs.1, hs.2.1, hx.s0, hx.s1, hx.w0, hx.w1⟩
    · rw [show (S.2.set k { S.2.getD k default with pos := a }).getD i default = S.2.getD i default by simp [List.getD_eq_getElem?_getD, List.getElem?_set_ne e]]
      exact h.all i hi
  · intro i hi
    show (List.getD (S.2.set k _) i default).we = _ ∧ (List.getD (S.2.set k _) i default).sl = _ ∧ (List.getD (S.2.set k _) i default).st = _
    by_cases e : k = i
    · subst e
      rw [show (S.2.set k { S.2.getD k default with pos := a }).getD k default = { S.2.getD k default with pos := a } by simp [List.getD_eq_getElem?_getD, h.ll, hk]]
      exact h.same k hk
    · rw [show (S.2.set k { S.2.getD k default with pos := a }).getD i default = S.2.getD i default by simp [List.getD_eq_getElem?_getD, List.getElem?_set_ne e]]
      exact h.same i hi

def pre (l : List Wk) (k : Nat) : Nat := ((l.take k).map fun x => x.we.toNat).sum
theorem pre_zero (l : List Wk) : pre l 0 = 0 := rfl
theorem pre_succ (l : List Wk) (k : Nat) (h : k < l.length) : pre l (k + 1) = pre l k + (l.getD k default).we.toNat := by
  unfold pre
  rw [List.take_succ_eq_append_getElem h, List.map_append, List.sum_append_nat, List.getD_eq_getElem?_getD, List.getElem?_eq_getElem h]
  simp
theorem flat_len (l : List Wk) (i : Nat) : ((l.zipIdx i).flatMap fun x => List.replicate x.1.we.toNat x.2).length = pre l l.length := by
  induction l generalizing i with
  | nil => rfl
  | cons a l ih => simp only [List.zipIdx_cons, List.flatMap_cons, List.length_append, List.length_replicate, ih]; simp [pre]
theorem flat_get (l : List Wk) (i k n : Nat) (hk : k < l.length) (hn : n < (l.getD k default).we.toNat) :
    ((l.zipIdx i).flatMap fun x => List.replicate x.1.we.toNat x.2).getD (pre l k + n) 0 = i + k := by
  induction l generalizing i k with
  | nil => simp at hk
  | cons a l ih =>
    simp only [List.zipIdx_cons, List.flatMap_cons]
    cases k with
    | zero =>
      simp only [List.getD_cons_zero] at hn
      rw [List.getD_eq_getElem?_getD, List.getElem?_append_left (by rw [List.length_replicate, pre_zero]; omega), pre_zero, Nat.zero_add, List.getElem?_replicate, if_pos hn]
      rfl
    | succ k =>
      have hk' : k < l.length := by simpa using hk
      have hn' : n < (l.getD k default).we.toNat := by simpa using hn
      have e : pre (a :: l) (k + 1) = a.we.toNat + pre l k := by simp [pre]
      rw [List.getD_eq_getElem?_getD, e, List.getElem?_append_right (by simp; omega), List.length_replicate, show a.we.toNat + pre l k + n - a.we.toNat = pre l k + n by omega, ← List.getD_eq_getElem?_getD, ih (i + 1) k hk' hn']
      omega
theorem who_at (l : List Wk) (r k n : Nat) (hk : k < l.length) (hn : n < (l.getD k default).we.toNat) : who l (r * pre l l.length + (pre l k + n)) = k := by
  unfold who flatW
  have hlt : pre l k + n < pre l l.length := by
    have h1 : pre l (k + 1) ≤ pre l l.length := by
      unfold pre
      rw [List.take_length]
      have : l.map (fun x => x.we.toNat) = (l.take (k + 1)).map (fun x => x.we.toNat) ++ (l.drop (k + 1)).map (fun x => x.we.toNat) := by rw [← List.map_append, List.take_append_drop]
      rw [this, List.sum_append_nat]; omega
    rw [pre_succ l k hk] at h1
    omega
  rw [flat_len, Nat.add_comm, Nat.add_mul_mod_self_right, Nat.mod_eq_of_lt hlt, flat_get l 0 k n hk hn]
  omega
theorem stat_ok {l : List Wk} (hl : ∀ i, i < l.length → (l.getD i default).ok) (hne : 0 < l.length) : ∀ j, j ≤ 127 → (stat l empty127 j).ok l j
  | 0, _ => ⟨by simp [stat, empty127], by simp [stat, empty127], rfl, hl, fun _ _ => ⟨rfl, rfl, rfl⟩⟩
  | j + 1, hj => (claim_ok (stat_ok hl hne j (by omega)) (by
      unfold who
      rw [List.getD_eq_getElem?_getD]
      cases he : (flatW l)[j % (flatW l).length]? with
      | none => simpa using hne
      | some v =>
        have hm := List.mem_of_getElem? he
        simp only [flatW, List.mem_flatMap, List.mem_replicate] at hm
        obtain ⟨⟨x, i⟩, hx, _, rfl⟩ := hm
        have := List.mem_zipIdx hx
        simp at this ⊢
        omega) (by omega)).1
def wheelOf (l : List Wk) : List Int := if l = [] then empty127 else (stat l empty127 127).1
end Go.Proofs.Ytimdaceidhdaeaa

namespace Go.Proofs.Ytimdaceidhdaeaa
open Go.RowKit

/-- Walkers in a block. -/
structure Wks (W : World) (g : Nat) (l : List Wk) : Prop where
  blk : ∃ cur, W.heap[g]? = some (.cells cur 170 (0, 0)) ∧ ∀ i j, i < l.length → j < 4 → cur[i * 4 + j]? = (l.getD i default).cells[j]?
theorem Wks.cell {W : World} {g : Nat} {l : List Wk} (h : Wks W g l) (i j : Nat) (hi : i < l.length) (hj : j < 4) {v : Value} (hv : (l.getD i default).cells[j]? = some v) : W.cell? ⟨g, i * 4 + j, none⟩ = some v := by
  obtain ⟨cur, hb, hc⟩ := h.blk
  rw [cell_of_row _ _ _ _ _ _ hb, hc i j hi hj, hv]
theorem Wks.fz {W : World} {g : Nat} {l : List Wk} (h : Wks W g l) (o : Nat) : W.frozen? ⟨g, o, none⟩ = false := by
  obtain ⟨cur, hb, _⟩ := h.blk
  exact frozen_of_row _ _ _ _ _ hb
theorem Wks.lt {W : World} {g : Nat} {l : List Wk} (h : Wks W g l) : g < W.heap.size := by
  obtain ⟨cur, hb, _⟩ := h.blk
  exact (Array.getElem?_eq_some_iff.1 hb).1
theorem Wks.set {W : World} {g : Nat} {l : List Wk} (h : Wks W g l) (k : Nat) (hk : k < l.length) (a : Int) :
    Wks (W.setCell ⟨g, k * 4 + 1, none⟩ (.int .i64 a)) g (l.set k { l.getD k default with pos := a }) := by
  obtain ⟨cur, hb, hc⟩ := h.blk
  refine ⟨⟨_, heap_setCell_same _ _ _ _ _ _ hb, fun i j hi hj => ?_⟩⟩
  have hi' : i < l.length := by simpa using hi
  have hold := hc i j hi' hj
  by_cases e : k = i
  · subst e
    rw [show (l.set k { l.getD k default with pos := a }).getD k default = { l.getD k default with pos := a } by simp [List.getD_eq_getElem?_getD, hk]]
    by_cases e1 : j = 1
    · subst e1
      have hlt : k * 4 + 1 < cur.size := by
        have h4 : (l.getD k default).cells[1]? = some (I (l.getD k default).pos) := rfl
        rw [h4] at hold
        exact (Array.getElem?_eq_some_iff.1 hold).1
      rw [Array.getElem?_setIfInBounds_self_of_lt hlt]
      rfl
    · rw [Array.getElem?_setIfInBounds_ne (by omega), hold]
      match j, hj, e1 with
      | 0, _, _ => rfl
      | 2, _, _ => rfl
      | 3, _, _ => rfl
  · rw [Array.getElem?_setIfInBounds_ne (by omega), hold]
    simp [List.getD_eq_getElem?_getD, List.getElem?_set_ne e]
theorem Wks.block {W W' : World} {g : Nat} {l : List Wk} (h : Wks W g l) (hb : W'.heap[g]? = W.heap[g]?) : Wks W' g l := by
  obtain ⟨cur, h1, h2⟩ := h.blk
  exact ⟨⟨cur, by rw [hb]; exact h1, h2⟩⟩
theorem Wks.of_own {W : World} {base : Nat} {v : Value} {l : List Wk} (h : W.ownsRow base 170 4 v l.length (l.flatMap Wk.cells)) (hl : 0 < l.length) :
    ∃ g c, v = .slice (some ⟨g, 0, none⟩) l.length c ∧ base ≤ g ∧ Wks W g l ∧ l.length ≤ c := by
  rcases h.2 with ⟨_, h0⟩ | ⟨g, cap, cur, rfl, hb, hg, hc, _, hs, ht⟩
  · omega
  · refine ⟨g, cap, rfl, hb, ⟨⟨cur, hg, fun i j hi hj => ?_⟩⟩, hc⟩
    have hix : i * 4 + j < l.length * 4 := by omega
    have h1 : (cur.toList.take (l.length * 4))[i * 4 + j]? = cur[i * 4 + j]? := by rw [List.getElem?_take, if_pos hix]; simp
    rw [← h1, ht]
    clear ht hs h1 hg hc hb hix h
    induction l generalizing i with
    | nil => simp at hi
    | cons a l ih =>
      simp only [List.flatMap_cons]
      cases i with
      | zero => rw [List.getElem?_append_left (by simp [Wk.cells]; omega)]; simp
      | succ i =>
        rw [List.getElem?_append_right (by simp [Wk.cells]; omega)]
        by_cases h0 : 0 < l.length
        · have := ih h0 i (by simpa using hi)
          simp only [Wk.cells, List.length_cons, List.length_nil]
          rw [show (i + 1) * 4 + j - (0 + 1 + 1 + 1 + 1) = i * 4 + j by omega, this]
          simp [Wk.cells]
        · simp at hi; omega
theorem own_nil {W : World} {base : Nat} {e : TypeId} {size : Nat} {v : Value} {xs : List Value} (h : W.ownsRow base e size v 0 xs) : ∃ A c, v = .slice A 0 c := by
  rcases h.2 with ⟨rfl, _⟩ | ⟨g, cap, cur, rfl, _⟩
  · exact ⟨none, 0, rfl⟩
  · exact ⟨_, cap, rfl⟩
theorem wks_at (l : List Wk) (k : Nat) (x : Wk) (i : Nat) (hk : k < l.length) : (l.set k x).getD i default = if k = i then x else l.getD i default := by
  by_cases e : k = i
  · subst e; simp [List.getD_eq_getElem?_getD, hk]
  · simp [List.getD_eq_getElem?_getD, List.getElem?_set_ne e, e]
theorem pre_mono (l : List Wk) (k : Nat) (hk : k < l.length) : pre l (k + 1) ≤ pre l l.length := by
  unfold pre
  rw [List.take_length]
  have : l.map (fun x => x.we.toNat) = (l.take (k + 1)).map (fun x => x.we.toNat) ++ (l.drop (k + 1)).map (fun x => x.we.toNat) := by rw [← List.map_append, List.take_append_drop]
  rw [this, List.sum_append_nat]; omega
theorem pre_pos (l : List Wk) (h0 : 0 < l.length) (hl : ∀ i, i < l.length → (l.getD i default).ok) : 0 < pre l l.length := by
  have h1 := pre_mono l 0 h0
  have h2 := pre_succ l 0 h0
  have h3 := (hl 0 h0).w0
  rw [pre_zero] at h2
  omega
/-- What is known of walker k behind j claims. -/
theorem stat_wk {l : List Wk} (hl : ∀ i, i < l.length → (l.getD i default).ok) (h0 : 0 < l.length) (j k : Nat) (hj : j ≤ 127) (hk : k < l.length) :
    ((stat l empty127 j).2.getD k default).ok ∧ ((stat l empty127 j).2.getD k default).we = (l.getD k default).we ∧ (stat l empty127 j).2.length = l.length ∧ (stat l empty127 j).1.length = 127 :=
  let h := stat_ok hl h0 j hj
  ⟨h.all k hk, (h.same k hk).1, h.ll, h.len⟩
end Go.Proofs.Ytimdaceidhdaeaa
