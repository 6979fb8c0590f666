/- Proved: lemmas that the law's proof stands on (Base, PoolS, Base2, EqLaws, RowLaws, Misc, Ref6, Ref6b, Ref6c, Law6a, Law6b). Conditions: as each states. -/
import Derived.WalkKit
import Derived.WalkSpells
import Derived.WalkLawsBesides
import Derived.Deep.MidRow
import Derived.StillTailTactics
import Derived.Deep.QuietTactic
import Derived.BigQuiet
import Derived.Deep.RegionWith
import Derived.Lib.Hide
import Derived.Laws.StructEq
import Derived.Deep.WholeRow
import Derived.Test.YtimdaceidhdaeaaProg

namespace Go.Proofs.Ytimdaceidhdaeaa
open Go.RowKit
abbrev I (n : Int) : Value := .int .i64 n
abbrev U (n : Int) : Value := .int .u64 n
structure Sl where
  st : Int
  ad : Int
  po : Int
  we : Int
  si : Int
  deriving DecidableEq, Inhabited
structure Ke where
  a : Int
  b : Int
  deriving DecidableEq, Inhabited
structure Po where
  ver : Int
  ad : Int
  po : Int
  sl : List Sl
  ep : Int
  k0 : Ke
  k1 : Ke
  k2 : Ke
  deriving DecidableEq, Inhabited
structure En where
  ki : Int
  sl : Int
  ad : Int
  po : Int
  we : Int
  ke : Ke
  deriving DecidableEq, Inhabited
def Sl.zero : Sl := ⟨0, 0, 0, 0, 0⟩
def Ke.zero : Ke := ⟨0, 0⟩
def En.zero : En := ⟨0, 0, 0, 0, 0, Ke.zero⟩
def Sl.cells (s : Sl) : List Value := [I s.st, I s.ad, I s.po, I s.we, I s.si]
def slots (l : List Sl) : List Value := l.flatMap Sl.cells
def Ke.cells (k : Ke) : List Value := [U k.a, U k.b]
def Ke.v (k : Ke) : Value := .agg #[U k.a, U k.b]
def Sl.v (s : Sl) : Value := .agg #[I s.st, I s.ad, I s.po, I s.we, I s.si]
def Ring.cells (e : Int) (k0 k1 k2 : Ke) : List Value := [I e, U k0.a, U k0.b, U k1.a, U k1.b, U k2.a, U k2.b]
def Po.cells (p : Po) : List Value := [I p.ver, I p.ad, I p.po] ++ slots p.sl ++ Ring.cells p.ep p.k0 p.k1 p.k2
def Po.v (p : Po) : Value := .agg p.cells.toArray
def En.cells (e : En) : List Value := [I e.ki, I e.sl, I e.ad, I e.po, I e.we, U e.ke.a, U e.ke.b]
def En.v (e : En) : Value := .agg e.cells.toArray
structure Po.ok (p : Po) : Prop where
  len : p.sl.length = 64
def Po.slot (p : Po) (i : Nat) : Sl := p.sl.getD i Sl.zero
def Po.zero : Po := ⟨0, 0, 0, List.replicate 64 Sl.zero, 0, Ke.zero, Ke.zero, Ke.zero⟩

theorem slots_len (l : List Sl) : (slots l).length = l.length * 5 := by
  induction l with
  | nil => rfl
  | cons a l ih => simp only [slots, List.flatMap_cons, List.length_append] at *; rw [ih]; simp [Sl.cells]; omega
theorem slots_at (l : List Sl) : ∀ (i j : Nat), i < l.length → j < 5 → (slots l)[5 * i + j]? = (l.getD i Sl.zero).cells[j]? := by
  induction l with
  | nil => intro i j h; simp at h
  | cons a l ih =>
    intro i j hi hj
    cases i with
    | zero =>
      simp only [slots, List.flatMap_cons]
      rw [List.getElem?_append_left (by simp [Sl.cells]; omega)]; simp
    | succ i =>
      have := ih i j (by simpa using hi) hj
      simp only [slots, List.flatMap_cons] at *
      rw [List.getElem?_append_right (by simp [Sl.cells]; omega)]
      simp only [Sl.cells, List.length_cons, List.length_nil]
      rw [show 5 * (i + 1) + j - (0 + 1 + 1 + 1 + 1 + 1) = 5 * i + j by omega, this]; simp [Sl.cells]
theorem Po.cells_len (p : Po) (h : p.ok) : p.cells.length = 330 := by
  simp [Po.cells, Ring.cells, slots_len, h.len]
theorem Po.at_ver (p : Po) : p.cells[0]? = some (I p.ver) := by simp [Po.cells]
theorem Po.at_ad (p : Po) : p.cells[1]? = some (I p.ad) := by simp [Po.cells]
theorem Po.at_po (p : Po) : p.cells[2]? = some (I p.po) := by simp [Po.cells]
theorem Po.at_slot (p : Po) (i j : Nat) (h : p.ok) (hi : i < 64) (hj : j < 5) : p.cells[3 + (5 * i + j)]? = (p.slot i).cells[j]? := by
  have h3 : ([I p.ver, I p.ad, I p.po] : List Value).length = 3 := rfl
  rw [Po.cells, List.append_assoc, List.getElem?_append_right (by rw [h3]; omega), h3, show 3 + (5 * i + j) - 3 = 5 * i + j by omega,
    List.getElem?_append_left (by rw [slots_len, h.len]; omega), slots_at _ _ _ (by rw [h.len]; exact hi) hj]; rfl
theorem Po.at_ring (p : Po) (j : Nat) (h : p.ok) : p.cells[323 + j]? = (Ring.cells p.ep p.k0 p.k1 p.k2)[j]? := by
  have hl : ([I p.ver, I p.ad, I p.po] ++ slots p.sl).length = 323 := by simp [slots_len, h.len]
  rw [Po.cells, List.getElem?_append_right (by rw [hl]; omega), hl, show 323 + j - 323 = j by omega]

theorem wp_tail {P : Program} {id : Nat} {Q : Exit → Act → World → Prop} {a : Act} {w : World} {l : List Oper} (n : Nat) (hm : P.follows .mixedOrders = true) (hB : Region.lexTailB .any l.toArray n = true)
    (h : wpStill P l.toArray w.drew (fun a' => wpList P l.toArray Q (l.drop n) a' w.drew) (l.take n) a) : (Code.region id l.toArray true).wp P Q a w :=
  wp_region_still_tail n hm hB h

/-- The world under a new name, with what is known of it. -/
theorem wp_gen {P : Program} {c : Code} {Q : Exit → Act → World → Prop} {a : Act} {W : World} (R : World → Prop) (hR : R W) (h : ∀ w1, R w1 → c.wp P Q a w1) : c.wp P Q a W := h W hR

/-- One block is another one; all else stands. -/
structure Put (g : Nat) (o : Obj) (w w' : World) : Prop where
  os : w'.os = w.os
  tape : w'.tape = w.tape
  output : w'.output = w.output
  heap : w'.heap = w.heap.setIfInBounds g o
  lt : g < w.heap.size
theorem Put.refl {g : Nat} {o : Obj} {w : World} (h : w.heap[g]? = some o) : Put g o w w := by
  obtain ⟨hl, _⟩ := Array.getElem?_eq_some_iff.1 h
  refine ⟨rfl, rfl, rfl, ?_, hl⟩
  apply Array.ext_getElem?
  intro i
  by_cases e : g = i
  · subst e; rw [h]; simp [hl]
  · rw [Array.getElem?_setIfInBounds_ne e]
theorem Put.of {g : Nat} {o o' : Obj} {w w' : World} (h : Put g o w w') (e : o = o') : Put g o' w w' := e ▸ h
theorem Put.drew {g : Nat} {o : Obj} {w w' : World} (h : Put g o w w') : Put g o w w'.drew := ⟨h.os, h.tape, h.output, h.heap, h.lt⟩
theorem Put.drewN {g : Nat} {o : Obj} {w w' : World} (h : Put g o w w') (n : Nat) : Put g o w (w'.drewN n) := ⟨h.os, h.tape, h.output, h.heap, h.lt⟩
theorem Put.get {g : Nat} {o : Obj} {w w' : World} (h : Put g o w w') : w'.heap[g]? = some o := by rw [h.heap]; simp [h.lt]
theorem Put.other {g : Nat} {o : Obj} {w w' : World} (h : Put g o w w') {k : Nat} (hk : k ≠ g) : w'.heap[k]? = w.heap[k]? := by
  rw [h.heap, Array.getElem?_setIfInBounds_ne (Ne.symm hk)]
theorem Put.cellAt {g : Nat} {C : Array Value} {t : TypeId} {fz : Nat × Nat} {w w' : World} (h : Put g (.cells C t fz) w w') (j : Nat) {v : Value} (hv : C[j]? = some v) : w'.cell? ⟨g, j, none⟩ = some v := by
  rw [cell_of_row _ _ _ _ _ _ h.get]; exact hv
theorem Put.fz {g : Nat} {C : Array Value} {t : TypeId} {w w' : World} (h : Put g (.cells C t (0, 0)) w w') (j : Nat) : w'.frozen? ⟨g, j, none⟩ = false := frozen_of_row _ _ _ _ _ h.get
theorem Put.size {g : Nat} {o : Obj} {w w' : World} (h : Put g o w w') : w'.heap.size = w.heap.size := by rw [h.heap]; simp
theorem Put.trans {g : Nat} {o o' : Obj} {w w1 w2 : World} (h : Put g o w w1) (k : Put g o' w1 w2) : Put g o' w w2 :=
  ⟨k.os.trans h.os, k.tape.trans h.tape, k.output.trans h.output, by rw [k.heap, h.heap]; simp, h.lt⟩
theorem Put.setCell {g : Nat} {C : Array Value} {t : TypeId} {fz : Nat × Nat} {w w' : World} (h : Put g (.cells C t fz) w w') (j : Nat) (v : Value) :
    Put g (.cells (C.setIfInBounds j v) t fz) w (w'.setCell ⟨g, j, none⟩ v) := by
  refine ⟨h.os, h.tape, h.output, ?_, h.lt⟩
  simp only [World.setCell]
  rw [h.heap]
  apply Array.ext_getElem?
  intro i
  have hl := h.lt
  rw [Array.getElem?_modify]
  by_cases e : g = i
  · subst e; simp [hl]
  · simp [e, Array.getElem?_setIfInBounds_ne e]

/-! ### keyed sums -/
def rotl (x : Int) (k : Nat) : Int := bits .or .u64 (IntKind.u64.wrap (x * 2 ^ k)) (x / 2 ^ (64 - k))
def xo (a b : Int) : Int := bits .xor .u64 a b
def pl (a b : Int) : Int := IntKind.u64.wrap (a + b)
structure St where
  a : Int
  b : Int
  c : Int
  d : Int
def St.cells (s : St) : Array Value := #[.int .u64 s.a, .int .u64 s.b, .int .u64 s.c, .int .u64 s.d]
def St.round (s : St) : St :=
  let a := pl s.a s.b
  let b := xo (rotl s.b 13) a
  let a := rotl a 32
  let c := pl s.c s.d
  let d := xo (rotl s.d 16) c
  let a := pl a d
  let d := xo (rotl d 21) a
  let c := pl c b
  let b := xo (rotl b 17) c
  let c := rotl c 32
  ⟨a, b, c, d⟩
def St.rounds (s : St) : Nat → St
  | 0 => s
  | n + 1 => (s.rounds n).round
theorem St.rounds_succ (s : St) (n : Nat) : s.rounds (n + 1) = (s.rounds n).round := rfl
def St.take (s : St) (n : Int) : St :=
  let t := St.rounds { s with d := xo s.d n } 2
  { t with a := xo t.a n }
def numTo (bs : List Int) : Nat → Int
  | 0 => 0
  | k + 1 => bits .or .u64 (numTo bs k) (IntKind.u64.wrap (bs.getD k 0 * 2 ^ (8 * k)))
def num (bs : List Int) : Int := numTo bs (min bs.length 8)
def St.eat (s : St) (bs : List Int) : Nat → St
  | 0 => s
  | j + 1 => (s.eat bs j).take (num ((bs.drop (8 * j)).take 8))
theorem St.eat_succ (s : St) (bs : List Int) (j : Nat) : s.eat bs (j + 1) = (s.eat bs j).take (num ((bs.drop (8 * j)).take 8)) := rfl
def St.start (k : Ke) : St := ⟨xo k.a 8317987319222330741, xo k.b 7237128888997146477, xo k.a 7816392313619706465, xo k.b 8387220255154660723⟩
def St.fin (s : St) : Int :=
  let t := St.rounds { s with c := xo s.c 255 } 4
  xo (xo (xo t.a t.b) t.c) t.d
def ofB (k : Ke) (bs : List Int) : Int :=
  (((St.start k).eat bs (bs.length / 8)).take (bits .or .u64 (num (bs.drop (8 * (bs.length / 8)))) (IntKind.u64.wrap (bs.length * 2 ^ 56)))).fin
theorem Put.below {g : Nat} {o : Obj} {w w' : World} (h : Put g o w w') {B : Nat} (hB : B ≤ g) : Below B w w' :=
  ⟨h.os, h.tape, h.output, by rw [h.size]; exact Nat.le_refl _, fun k hk => h.other (by omega)⟩
end Go.Proofs.Ytimdaceidhdaeaa

namespace Go.Proofs.Ytimdaceidhdaeaa

/-! Slots, and changes of them, in plain Lean. -/
def enCheck (e : En) : Int :=
  if e.ki < 1 ∨ 6 < e.ki then 2
  else if e.sl < 0 ∨ 63 < e.sl ∨ (e.ki = 6 ∧ e.sl ≠ 0) then 11
  else if e.ki = 1 ∧ (e.ad < 0 ∨ 4294967295 < e.ad ∨ e.po < 0 ∨ 65535 < e.po ∨ e.we < 1 ∨ 8 < e.we) then 14
  else if e.ki ≠ 1 ∧ (e.ad ≠ 0 ∨ e.po ≠ 0 ∨ e.we ≠ 0) then 14
  else if e.ki ≠ 6 ∧ (e.ke.a ≠ 0 ∨ e.ke.b ≠ 0) then 14
  else 0
def slotHeld (a q : Int) (s : Sl) : Bool := decide (s.st ≠ 0 ∧ s.ad = a ∧ s.po = q)
def heldB (p : Po) (a q : Int) : Bool := p.sl.any (slotHeld a q) || decide (p.ad = a ∧ p.po = q)
def badB (p : Po) (e : En) : Bool :=
  let s := (p.slot e.sl.toNat).st
  if e.ki = 1 then decide (s ≠ 0) || heldB p e.ad e.po
  else if e.ki = 2 ∨ e.ki = 4 then decide (s ≠ 1 ∧ s ≠ 3)
  else if e.ki = 3 then decide (s ≠ 2)
  else if e.ki = 5 then decide (s ≠ 4)
  else false
def soonB (p : Po) (e : En) : Bool := decide (e.ki = 5 ∧ p.ep < (p.slot e.sl.toNat).si + 3)
def slotDo (e : En) (ep : Int) (s : Sl) : Sl :=
  if e.ki = 1 then ⟨1, e.ad, e.po, e.we, 0⟩
  else if e.ki = 2 then { s with st := 2 }
  else if e.ki = 3 then { s with st := 3 }
  else if e.ki = 4 then { s with st := 4, si := ep }
  else if e.ki = 5 then Sl.zero
  else s
def poDo (p : Po) (e : En) : Po :=
  if e.ki = 6 then { p with ver := p.ver + 1, ep := p.ep + 1, k0 := p.k1, k1 := p.k2, k2 := e.ke }
  else { p with ver := p.ver + 1, sl := p.sl.set e.sl.toNat (slotDo e p.ep (p.slot e.sl.toNat)) }
def apErr (p : Po) (e : En) : Int :=
  if enCheck e ≠ 0 then enCheck e else if badB p e then 12 else if soonB p e then 13 else 0
def applyP (p : Po) (e : En) : Po := if apErr p e = 0 then poDo p e else Po.zero

/-- What holds of all pools here. -/
structure Po.fit (p : Po) : Prop where
  ok : p.ok
  v0 : 0 ≤ p.ver
  v1 : p.ver ≤ 1000000
  e0 : 0 ≤ p.ep
  e1 : p.ep ≤ 1000000
  s0 : ∀ i, 0 ≤ (p.slot i).si
  s1 : ∀ i, (p.slot i).si ≤ 1000000
theorem held_true {p : Po} {a q : Int} {k : Nat} (hp : p.ok) (hk : k < 64) (h : slotHeld a q (p.slot k) = true) : heldB p a q = true := by
  unfold heldB
  rw [Bool.or_eq_true]
  left
  rw [List.any_eq_true]
  refine ⟨p.slot k, ?_, h⟩
  have hl : k < p.sl.length := by rw [hp.len]; exact hk
  unfold Po.slot
  simp [List.getD_eq_getElem?_getD, hl]
theorem held_rest {p : Po} {a q : Int} (hp : p.ok) (h : ∀ i, i < 64 → slotHeld a q (p.slot i) = false) : heldB p a q = decide (p.ad = a ∧ p.po = q) := by
  unfold heldB
  have : p.sl.any (slotHeld a q) = false := by
    rw [List.any_eq_false]
    intro s hs
    obtain ⟨i, hi, rfl⟩ := List.getElem_of_mem hs
    have := h i (by rw [← hp.len]; exact hi)
    unfold Po.slot at this
    simp [List.getD_eq_getElem?_getD, hi] at this
    simp [this]
  rw [this, Bool.false_or]
end Go.Proofs.Ytimdaceidhdaeaa

namespace Go.Proofs.Ytimdaceidhdaeaa
open Go.RowKit

/-- A row that is owned, as a reader meets it. -/
theorem own_read {w : World} {base : Nat} {e : TypeId} {v : Value} {n : Nat} {xs : List Value} (h : w.ownsRow base e 1 v n xs) :
    ∃ A c g, v = .slice A n c ∧ n ≤ c ∧ (0 < n → A = some ⟨g, 0, none⟩ ∧ g < w.heap.size ∧ base ≤ g) ∧ ∀ i, i < n → w.cell? ⟨g, 0 + i, none⟩ = xs[i]? := by
  obtain ⟨hl, h⟩ := h
  rcases h with ⟨rfl, rfl⟩ | ⟨g, cap, cur, rfl, hb, hg, hc, _, hs, ht⟩
  · exact ⟨none, 0, 0, rfl, Nat.le_refl _, fun h => by omega, fun i hi => by omega⟩
  · refine ⟨_, cap, g, rfl, hc, fun _ => ⟨rfl, (Array.getElem?_eq_some_iff.1 hg).1, hb⟩, fun i hi => ?_⟩
    rw [cell_of_row _ _ _ _ _ _ hg, ← ht, List.getElem?_take, if_pos (by omega), Nat.zero_add]
    simp
theorem map_get {α : Type} (l : List α) (f : α → Value) (d : α) (i : Nat) (h : i < l.length) : (l.map f)[i]? = some (f (l.getD i d)) := by
  simp [List.getD_eq_getElem?_getD, h]
end Go.Proofs.Ytimdaceidhdaeaa

namespace Go.Proofs.Ytimdaceidhdaeaa
open Go.RowKit
variable {P : Program}

theorem run_equalIn_array (w : World) (d : Nat) (t : TypeId) (xs ys : Array Value) (len : Nat) (elem : TypeId) (n : Nat) (b : Nat → Bool) (ht : P.underlying t = some (.array len elem))
    (hn : (sizeOf elem).run P w = .ok n w) (h : ∀ i, i < len → ((part elem xs (i * n)).bind fun x => (part elem ys (i * n)).bind fun y => Op.equalIn d elem x y).run P w = .ok (b i) w) :
    (Op.equalIn (d + 1) t (.agg xs) (.agg ys)).run P w = .ok ((List.range len).all b) w := by
  simp only [Op.equalIn, Sem.run_bind, run_underlying ht, Result.andThen_ok, hn]
  have hr : List.range len = List.range' 0 len := by rw [List.range_eq_range']
  rw [hr]
  simp
  have hl : ∀ i ∈ List.range' 0 len, i < len := fun i hi => by simp at hi; omega
  generalize List.range' 0 len = l at hl
  clear hr ht hn
  induction l with
  | nil => simp
  | cons i l ih =>
    have h1 := h i (hl i (by simp))
    have h1' := (Sem.run_bind P w (part elem xs (i * n)) (fun x => (part elem ys (i * n)).bind fun y => Op.equalIn d elem x y)).symm.trans h1
    have ih' := ih (fun j hj => hl j (by simp [hj]))
    simp only [List.forIn_cons, Sem.run_bind]
    cases hp : (part elem xs (i * n)).run P w with
    | halt x w1 => rw [hp] at h1'; simp [Result.andThen] at h1'
    | ok x w1 =>
      rw [hp] at h1'
      simp only [Result.andThen_ok] at h1' ⊢
      have h2' := (Sem.run_bind P w1 (part elem ys (i * n)) (fun y => Op.equalIn d elem x y)).symm.trans h1'
      cases hq : (part elem ys (i * n)).run P w1 with
      | halt y w2 => rw [hq] at h2'; simp [Result.andThen] at h2'
      | ok y w2 =>
        rw [hq] at h2'
        simp only [Result.andThen_ok] at h2' ⊢
        rw [h2']
        simp only [Result.andThen_ok]
        cases hb : b i
        · simp [hb]
        · simp [hb]
          exact ih'

theorem part_int (w : World) (t : TypeId) (k : IntKind) (cs : Array Value) (off : Nat) (v : Value) (ht : P.underlying t = some (.int k)) (hv : cs[off]? = some v) : (part t cs off).run P w = .ok v w := by
  simp [part, isAgg, run_underlying ht, hv]
theorem part_agg (w : World) (t : TypeId) (cs : Array Value) (off n : Nat) (d : TypeDesc) (ht : P.underlying t = some d) (hd : d.isRow = true) (hn : (sizeOf t).run P w = .ok n w) :
    (part t cs off).run P w = .ok (.agg (cs.extract off (off + n))) w := by
  have hi : (isAgg t).run P w = .ok true w := by
    unfold isAgg; rw [Sem.run_bind, run_underlying ht w]; cases d <;> simp_all
  simp [part, hi, hn]
theorem sizeOf_info (w : World) (t : TypeId) (n : Nat) (h : (P.info? t).map (·.size) = some n) : (sizeOf t).run P w = .ok n w := by
  cases hq : P.info? t with
  | none => simp [hq] at h
  | some i => simp [hq] at h; simp [sizeOf, typeInfo, hq, h]

/-- [n]int -/
theorem run_equalIn_ints (w : World) (d : Nat) (t : TypeId) (l m : List Int) (len : Nat) (elem : TypeId) (k : IntKind) (ht : P.underlying t = some (.array len elem))
    (he : P.underlying elem = some (.int k)) (hn : (P.info? elem).map (·.size) = some 1) (hl : l.length = len) (hm : m.length = len) :
    (Op.equalIn (d + 2) t (.agg (l.map (Value.int k)).toArray) (.agg (m.map (Value.int k)).toArray)).run P w = .ok (decide (l = m)) w := by
  rw [run_equalIn_array w (d + 1) t _ _ len elem 1 (fun i => l.getD i 0 == m.getD i 0) ht (sizeOf_info w elem 1 hn)]
  · congr 1
    rw [Bool.eq_iff_iff]
    simp only [List.all_eq_true, List.mem_range, beq_iff_eq, decide_eq_true_eq]
    constructor
    · intro h
      apply List.ext_getElem (by omega)
      intro i h1 h2
      have := h i (by omega)
      simpa [List.getD_eq_getElem?_getD, h1, h2] using this
    · rintro rfl i _; rfl
  · intro i hi
    have h1 : (l.map (Value.int k)).toArray[i * 1]? = some (.int k (l.getD i 0)) := by simp [List.getD_eq_getElem?_getD, hl, hi]
    have h2 : (m.map (Value.int k)).toArray[i * 1]? = some (.int k (m.getD i 0)) := by simp [List.getD_eq_getElem?_getD, hm, hi]
    show Sem.run P (part elem _ (i * 1) >>= fun x => part elem _ (i * 1) >>= fun y => Op.equalIn (d + 1) elem x y) w = _
    rw [Sem.run_bind, part_int w elem k _ _ _ he h1, Result.andThen_ok, Sem.run_bind, part_int w elem k _ _ _ he h2, Result.andThen_ok]
    exact run_equalIn_int w d elem k k _ _ he
theorem run_neq_ints (w : World) (t : TypeId) (l m : List Int) (len : Nat) (elem : TypeId) (k : IntKind) (ht : P.underlying t = some (.array len elem))
    (he : P.underlying elem = some (.int k)) (hn : (P.info? elem).map (·.size) = some 1) (hl : l.length = len) (hm : m.length = len) :
    (binOp .neq t (.agg (l.map (Value.int k)).toArray) (.agg (m.map (Value.int k)).toArray)).run P w = .ok (.bool (!decide (l = m))) w := by
  rw [run_neq_struct, run_equalIn_ints w 9998 t l m len elem k ht he hn hl hm]; rfl
end Go.Proofs.Ytimdaceidhdaeaa

namespace Go.Proofs.Ytimdaceidhdaeaa
open Go.RowKit
variable {P : Program}

theorem run_index_row (w : World) (t : TypeId) (len : Nat) (elem : TypeId) (n : Nat) (cs : Array Value) (k : IntKind) (i : Int) (d : TypeDesc) (ht : P.underlying t = some (.array len elem))
    (he : P.underlying elem = some d) (hd : d.isRow = true) (hn : (P.info? elem).map (·.size) = some n) (h0 : 0 ≤ i) (h1 : i < len) :
    (Instr.index t (.agg cs) (.int k i)).run P w = .ok (.agg (cs.extract (i.toNat * n) (i.toNat * n + n))) w := by
  simp only [Instr.index, asIntOf, Sem.run_bind, Sem.run_pure, Result.andThen_ok, run_underlying ht, h0, h1, and_self, if_true, sizeOf_info w elem n hn, part_agg w elem cs _ n d he hd (sizeOf_info w elem n hn)]

theorem slots_extract (l : List Sl) (i : Nat) (h : i < l.length) : (slots l).toArray.extract (i * 5) (i * 5 + 5) = (l.getD i Sl.zero).cells.toArray := by
  apply Array.ext_getElem?
  intro j
  rw [Array.getElem?_extract]
  by_cases hj : j < 5
  · have := slots_at l i j h hj
    rw [if_pos (by rw [List.size_toArray, slots_len]; omega), show i * 5 + j = 5 * i + j by omega]
    simpa using this
  · rw [if_neg (by omega)]
    simp [Sl.cells]; omega
theorem ints_set (l : List Int) (k : IntKind) (i : Nat) (v : Int) : (l.map (Value.int k)).toArray.setIfInBounds i (.int k v) = ((l.set i v).map (Value.int k)).toArray := by
  simp [List.map_set]

/-- A fact laid aside, behind a structure: nothing that looks through definitions sees it. -/
structure Bx (p : Prop) : Prop where
  out : p
/-! A row stored into a block that is known whole. -/
def spl (C : Array Value) (o : Nat) : List Value → Array Value
  | [] => C
  | v :: r => spl (C.setIfInBounds o v) (o + 1) r
theorem spl_size (vs : List Value) : ∀ (C : Array Value) (o : Nat), (spl C o vs).size = C.size := by
  induction vs with
  | nil => intro C o; rfl
  | cons v r ih => intro C o; simp [spl, ih]
theorem spl_get (vs : List Value) : ∀ (C : Array Value) (o k : Nat), k < C.size → (spl C o vs)[k]? = if o ≤ k ∧ k < o + vs.length then vs[k - o]? else C[k]? := by
  induction vs with
  | nil => intro C o k _; simp [spl]; omega
  | cons v r ih =>
    intro C o k hk
    rw [spl, ih _ _ _ (by simpa using hk)]
    by_cases h1 : o = k
    · subst h1
      rw [if_neg (by omega), if_pos (by simp), Array.getElem?_setIfInBounds_self_of_lt hk]; simp
    · rw [Array.getElem?_setIfInBounds_ne h1]
      by_cases h2 : o + 1 ≤ k ∧ k < o + 1 + r.length
      · rw [if_pos h2, if_pos (by simp; omega), show k - o = (k - (o + 1)) + 1 by omega, List.getElem?_cons_succ]
      · rw [if_neg h2, if_neg (by simp; omega)]
theorem spl_all (C : Array Value) (vs : List Value) (h : vs.length = C.size) : spl C 0 vs = vs.toArray := by
  apply Array.ext_getElem?
  intro k
  by_cases hk : k < C.size
  · rw [spl_get _ _ _ _ hk, if_pos (by omega)]; simp
  · rw [Array.getElem?_eq_none (by rw [spl_size]; omega), Array.getElem?_eq_none (by simp; omega)]
theorem setCells_block {b : Nat} {t : TypeId} {fz : Nat × Nat} (vs : List Value) : ∀ (o : Nat) (w : World) (C : Array Value), w.heap[b]? = some (.cells C t fz) → (w.setCells b o vs).heap[b]? = some (.cells (spl C o vs) t fz) := by
  induction vs with
  | nil => intro o w C h; exact h
  | cons v r ih =>
    intro o w C h
    rw [World.setCells]
    refine ih _ _ _ ?_
    simp only [World.setCell, Array.getElem?_modify, if_true, h]
    rfl
theorem setCells_other {b k : Nat} (hk : k ≠ b) (vs : List Value) : ∀ (o : Nat) (w : World), (w.setCells b o vs).heap[k]? = w.heap[k]? := by
  induction vs with
  | nil => intro o w; rfl
  | cons v r ih => intro o w; rw [World.setCells, ih, heap_setCell_other _ _ _ _ hk]
theorem setCells_size {b : Nat} (vs : List Value) : ∀ (o : Nat) (w : World), (w.setCells b o vs).heap.size = w.heap.size := by
  induction vs with
  | nil => intro o w; rfl
  | cons v r ih => intro o w; rw [World.setCells, ih]; simp [World.setCell]
theorem setCells_rest {b : Nat} (vs : List Value) : ∀ (o : Nat) (w : World), (w.setCells b o vs).os = w.os ∧ (w.setCells b o vs).tape = w.tape ∧ (w.setCells b o vs).output = w.output := by
  induction vs with
  | nil => intro o w; exact ⟨rfl, rfl, rfl⟩
  | cons v r ih => intro o w; rw [World.setCells]; exact ih _ _
theorem below_setCells {B : Nat} {a w : World} (h : Below B a w) {b : Nat} (hb : B ≤ b) (o : Nat) (vs : List Value) : Below B a (w.setCells b o vs) :=
  h.trans ⟨(setCells_rest vs o w).1, (setCells_rest vs o w).2.1, (setCells_rest vs o w).2.2, by rw [setCells_size]; exact Nat.le_refl _, fun k hk => setCells_other (by omega) vs o w⟩
theorem there_of_block {w : World} {b : Nat} {C : Array Value} {t : TypeId} (h : w.heap[b]? = some (.cells C t (0, 0))) (o n : Nat) (hn : o + n ≤ C.size) : w.there b o n := fun j hj =>
  ⟨by rw [cell_of_row _ _ _ _ _ _ h]; simp; omega, frozen_of_row _ _ _ _ _ h⟩
theorem ints_all (l : List Int) (k : IntKind) : ((l.map (Value.int k)).toArray).all (·.oneCell') = true := by
  refine all_oneCell_toArray fun v hv => ?_
  obtain ⟨x, _, rfl⟩ := List.mem_map.1 hv
  rfl
end Go.Proofs.Ytimdaceidhdaeaa

namespace Go.Proofs.Ytimdaceidhdaeaa
open Go.RowKit
theorem wpList_want {P : Program} {ops : Array Oper} {Q : Exit → Act → World → Prop} {rest : List Oper} {o : Oper} {a : Act} {w : World} (hw : Region.wanted o (yielded ops a.tmps) = true)
    (h : ∀ K : Act → World → Prop, (∀ a w, wpList P ops Q rest a w → K a w) → o.wp P a w K Q) : wpList P ops Q (o :: rest) a w :=
  wpList_step fun K hK => by rw [if_pos hw]; exact h K hK
/-- The load of a row under a guard that is met. -/
theorem wpList_load_g {P : Program} {ops : Array Oper} {rest : List Oper} {op : Oper} {a : Act} {w : World} {Q : Exit → Act → World → Prop} (hw : Region.wanted op (yielded ops a.tmps) = true) (ty : TypeId) (x : Operand) (ho : op.op = .load ty x)
    (b o : Nat) (hx : a.eval x = .pointer (some ⟨b, o, none⟩)) (cs : List Value) (d : TypeDesc) (hc : w.rangeAt b o cs)
    (hu : P.underlying ty = some d) (hd : d.isRow = true) (hi : (P.info? ty).map (·.size) = some cs.length)
    (h : wpList P ops Q rest (a.put op.dst (.agg cs.toArray)) w) : wpList P ops Q (op :: rest) a w :=
  wpList_want hw fun _ hK => wp_load_mid ty x ho b o hx cs d hc hu hd hi (hK _ _ h)
theorem bdN {B : Nat} {a w : World} (h : Below B a w) (n : Nat) : Below B a (w.drewN n) := ⟨h.os, h.tape, h.output, h.size, h.block⟩
theorem ret_int {k : IntKind} {a b : Int} (h : a = b) : Ending.returned (.int k a) = .returned (.int k b) := by rw [h]
theorem ret_bool {a b : Bool} (h : a = b) : Ending.returned (.bool a) = .returned (.bool b) := by rw [h]
/-- A pool in a block: its cells, one by one. -/
theorem pool_cells {W : World} {b : Nat} {p : Po} {t : TypeId} (h : W.heap[b]? = some (.cells p.cells.toArray t (0, 0))) (hp : p.ok) :
    W.cell? ⟨b, 0, none⟩ = some (I p.ver) ∧ W.cell? ⟨b, 1, none⟩ = some (I p.ad) ∧ W.cell? ⟨b, 2, none⟩ = some (I p.po) ∧ W.cell? ⟨b, 323, none⟩ = some (I p.ep) := by
  refine ⟨?_, ?_, ?_, ?_⟩ <;> rw [cell_of_row _ _ _ _ _ _ h, List.getElem?_toArray]
  · exact p.at_ver
  · exact p.at_ad
  · exact p.at_po
  · exact p.at_ring 0 hp
theorem slot_cells {W : World} {b : Nat} {p : Po} {t : TypeId} (h : W.heap[b]? = some (.cells p.cells.toArray t (0, 0))) (hp : p.ok) (k : Nat) (hk : k < 64) :
    W.cell? ⟨b, 3 + k * 5, none⟩ = some (I (p.slot k).st) ∧ W.cell? ⟨b, 3 + k * 5 + 1, none⟩ = some (I (p.slot k).ad) ∧ W.cell? ⟨b, 3 + k * 5 + 2, none⟩ = some (I (p.slot k).po) ∧
      W.cell? ⟨b, 3 + k * 5 + 3, none⟩ = some (I (p.slot k).we) ∧ W.cell? ⟨b, 3 + k * 5 + 4, none⟩ = some (I (p.slot k).si) := by
  have key : ∀ j, j < 5 → W.cell? ⟨b, 3 + (5 * k + j), none⟩ = (p.slot k).cells[j]? := fun j hj => by
    rw [cell_of_row _ _ _ _ _ _ h, List.getElem?_toArray, Po.at_slot p k j hp hk hj]
  refine ⟨?_, ?_, ?_, ?_, ?_⟩
  · have := key 0 (by omega); rw [show 3 + (5 * k + 0) = 3 + k * 5 by omega] at this; exact this
  · have := key 1 (by omega); rw [show 3 + (5 * k + 1) = 3 + k * 5 + 1 by omega] at this; exact this
  · have := key 2 (by omega); rw [show 3 + (5 * k + 2) = 3 + k * 5 + 2 by omega] at this; exact this
  · have := key 3 (by omega); rw [show 3 + (5 * k + 3) = 3 + k * 5 + 3 by omega] at this; exact this
  · have := key 4 (by omega); rw [show 3 + (5 * k + 4) = 3 + k * 5 + 4 by omega] at this; exact this
theorem ring_cells {W : World} {b : Nat} {p : Po} {t : TypeId} (h : W.heap[b]? = some (.cells p.cells.toArray t (0, 0))) (hp : p.ok) : ∀ j, W.cell? ⟨b, 323 + j, none⟩ = (Ring.cells p.ep p.k0 p.k1 p.k2)[j]? := fun j => by
  rw [cell_of_row _ _ _ _ _ _ h, List.getElem?_toArray, p.at_ring j hp]
theorem pool_range {W : World} {b : Nat} {p : Po} {t : TypeId} (h : W.heap[b]? = some (.cells p.cells.toArray t (0, 0))) : W.rangeAt b 0 p.cells := fun j v hv => by
  rw [cell_of_row _ _ _ _ _ _ h, Nat.zero_add]; simpa using hv
end Go.Proofs.Ytimdaceidhdaeaa

namespace Go.Proofs.Ytimdaceidhdaeaa
open Go.RowKit Go.Proofs

set_option maxHeartbeats 400000 in
theorem ref6_out (n l h : Int) (w : World) : Calls Try.prog 57 #[.int .i64 n, .int .i64 l, .int .i64 h] w fun e w' => e = .returned (.bool (decide (n < l ∨ h < n))) ∧ w' = w := by
  by_cases h1 : n < l
  · go_enter Try.func57, Try.ntmps57
    go_wp2
    go_ret
    exact ⟨by simp [h1], rfl⟩
  · by_cases h2 : h < n
    · go_enter Try.func57, Try.ntmps57
      go_wp2
      go_ret
      exact ⟨by simp [h1, h2], rfl⟩
    · go_enter Try.func57, Try.ntmps57
      go_wp2
      go_ret
      exact ⟨by simp [h1, h2], rfl⟩

set_option maxHeartbeats 1000000 in
theorem ref6_Check (e : En) (w : World) : Calls Try.prog 59 #[e.v] w fun r w' => r = .returned (I (enCheck e)) ∧ Below w.heap.size w w' := by
  unfold En.v En.cells
  go_enter Try.func59, Try.ntmps59
  go_wp2_with fail
  go_quiet (fail)
  go_wp2_with (go_at_call 57; refine (ref6_out _ _ _ _).mono ?_; rintro r w' ⟨rfl, rfl⟩)
  all_goals
    go_ret
    refine ⟨ret_int ?_, bdN ((Below.refl _ _).alloc (Nat.le_refl _) _) _⟩
    try simp only [Bool.not_eq_eq_eq_not, Bool.not_true, Bool.not_false, bne_iff_ne, bne_eq_false_iff_eq, beq_iff_eq, beq_eq_false_iff_ne, ne_eq] at *
    unfold enCheck
    (repeat' split) <;> first | rfl | (exfalso; omega)
end Go.Proofs.Ytimdaceidhdaeaa

namespace Go.Proofs.Ytimdaceidhdaeaa
open Go.RowKit Go.Proofs

set_option maxHeartbeats 1000000 in
theorem ref6_Held (p : Po) (a q : Int) (w : World) (hp : p.ok) : Calls Try.prog 73 #[p.v, .int .i64 a, .int .i64 q] w fun r w' => r = .returned (.bool (heldB p a q)) ∧ Below w.heap.size w w' := by
  unfold Po.v
  go_enter Try.func73, Try.ntmps73
  go_wp2_with fail
  go_loopw [7] (fun i wr => ∃ k : Nat, k ≤ 64 ∧ i = .int .i64 k ∧ Bx (∀ i, i < k → slotHeld a q (p.slot i) = false) ∧ Below w.heap.size w wr ∧ wr.heap[w.heap.size]? = some (.cells p.cells.toArray 33 (0, 0))) (fun i _ => 64 - (intOf i).toNat)
  case atStart => exact ⟨0, by omega, rfl, ⟨fun i h => by omega⟩, (Below.refl _ _).alloc (Nat.le_refl _) _, heap_alloc_new _ _⟩
  case round =>
    obtain ⟨k, hk, rfl, HF, hB, hb⟩ := hrel
    by_cases hlt : k < 64
    · obtain ⟨s0, s1, s2, s3, s4⟩ := slot_cells hb hp k hlt
      generalize hs : p.slot k = s at s0 s1 s2 s3 s4
      have HS := Lib.hid hs
      have HB := Lib.hid hb
      clear hs hb
      by_cases hh : s.st ≠ 0 ∧ s.ad = a ∧ s.po = q
      · obtain ⟨g1, g2, g3⟩ := hh
        have b1 : (s.st != 0) = true := by rw [bne_iff_ne]; exact g1
        have b2 : (s.ad == a) = true := beq_iff_eq.2 g2
        have b3 : (s.po == q) = true := beq_iff_eq.2 g3
        have hfin : heldB p a q = true := held_true hp hlt (by rw [HS.out]; simp [slotHeld, g1, g2, g3])
        have HFIN := Lib.hid hfin
        clear g1 g2 g3 hfin
        go_wp2_with fail
        all_goals
          go_ret
          exact ⟨ret_bool HFIN.out.symm, (hB.alloc hB.size _)⟩
      · have hfin : Bx (∀ i, i < k + 1 → slotHeld a q (p.slot i) = false) := ⟨fun i hi => by
          by_cases e : i = k
          · subst e; rw [HS.out]; simp only [slotHeld, decide_eq_false_iff_not]; exact hh
          · exact HF.out i (by omega)⟩
        by_cases c1 : s.st = 0
        · have b1 : (s.st != 0) = false := by rw [bne_eq_false_iff_eq]; exact c1
          clear hh c1
          go_wp2_with fail
          go_roundw
          case rel => exact ⟨k + 1, by omega, by go_num, hfin, hB.alloc hB.size _, by rw [Below.heap_alloc _ _ _ (by have := (Array.getElem?_eq_some_iff.1 HB.out).1; exact this)]; exact HB.out⟩
          case measure => simp [intOf]; omega
        · have b1 : (s.st != 0) = true := by rw [bne_iff_ne]; exact c1
          by_cases c2 : s.ad = a
          · have b2 : (s.ad == a) = true := beq_iff_eq.2 c2
            have b3 : (s.po == q) = false := by rw [beq_eq_false_iff_ne]; exact fun e => hh ⟨c1, c2, e⟩
            clear hh c1 c2
            go_wp2_with fail
            go_roundw
            case rel => exact ⟨k + 1, by omega, by go_num, hfin, hB.alloc hB.size _, by rw [Below.heap_alloc _ _ _ (by have := (Array.getElem?_eq_some_iff.1 HB.out).1; exact this)]; exact HB.out⟩
            case measure => simp [intOf]; omega
          · have b2 : (s.ad == a) = false := by rw [beq_eq_false_iff_ne]; exact c2
            clear hh c1 c2
            go_wp2_with fail
            go_roundw
            case rel => exact ⟨k + 1, by omega, by go_num, hfin, hB.alloc hB.size _, by rw [Below.heap_alloc _ _ _ (by have := (Array.getElem?_eq_some_iff.1 HB.out).1; exact this)]; exact HB.out⟩
            case measure => simp [intOf]; omega
    · have hk4 : k = 64 := by omega
      subst hk4
      obtain ⟨_, c1, c2, _⟩ := pool_cells hb hp
      have hr := held_rest hp HF.out
      have HR := Bx.mk hr
      clear hr hb
      by_cases e1 : p.ad = a
      · by_cases e2 : p.po = q
        · have b1 : (p.ad == a) = true := beq_iff_eq.2 e1
          have b2 : (p.po == q) = true := beq_iff_eq.2 e2
          have HE := Bx.mk (And.intro e1 e2)
          clear e1 e2
          go_wp2_with fail
          go_ret
          exact ⟨ret_bool (by rw [HR.out]; simp [HE.out]), hB⟩
        · have b1 : (p.ad == a) = true := beq_iff_eq.2 e1
          have b2 : (p.po == q) = false := by rw [beq_eq_false_iff_ne]; exact e2
          have HE := Bx.mk e2
          clear e1 e2
          go_wp2_with fail
          go_ret
          exact ⟨ret_bool (by rw [HR.out]; simp [HE.out]), hB⟩
      · have b1 : (p.ad == a) = false := by rw [beq_eq_false_iff_ne]; exact e1
        have HE := Bx.mk e1
        clear e1
        go_wp2_with fail
        go_ret
        exact ⟨ret_bool (by rw [HR.out]; simp [HE.out]), hB⟩
end Go.Proofs.Ytimdaceidhdaeaa

namespace Go.Proofs.Ytimdaceidhdaeaa
open Go.RowKit Go.Proofs

theorem size33 (p : Po) (h : p.ok) : (Try.prog.info? 33).map (·.size) = some p.cells.length := by rw [p.cells_len h]; kernel_rfl

set_option maxHeartbeats 1000000 in
theorem ref6_bad (p : Po) (en : En) (w : World) (hp : p.ok) (h0 : 0 ≤ en.sl) (h1 : en.sl < 64) : Calls Try.prog 60 #[p.v, en.v] w fun r w' => r = .returned (.bool (badB p en)) ∧ Below w.heap.size w w' := by
  have HI := Lib.hid (size33 p hp)
  have HA := Lib.hid (heap_alloc_new w (.cells p.cells.toArray 33))
  have HW := Lib.hid (Below.heap_alloc (w.alloc (.cells p.cells.toArray 33)) (.cells en.cells.toArray 53) w.heap.size (by simp))
  have hb : ((w.alloc (.cells p.cells.toArray 33)).alloc (.cells en.cells.toArray 53)).heap[w.heap.size]? = some (.cells p.cells.toArray 33 (0, 0)) := HW.out.trans HA.out
  have HR := Lib.hid (pool_range hb)
  have s0 : p.cells[3 + en.sl.toNat * 5]? = some (I (p.slot en.sl.toNat).st) := by
    have := p.at_slot en.sl.toNat 0 hp (by omega) (by omega)
    rw [show 3 + (5 * en.sl.toNat + 0) = 3 + en.sl.toNat * 5 by omega] at this; exact this
  clear HA HW hb
  have hbad : Bx (∀ v, badB p en = v → badB p en = v) := ⟨fun _ h => h⟩
  generalize hs : (p.slot en.sl.toNat).st = s at s0
  have HS := Bx.mk hs
  clear hs
  have HB : Bx (badB p en = if en.ki = 1 then decide (s ≠ 0) || heldB p en.ad en.po
  else if en.ki = 2 ∨ en.ki = 4 then decide (s ≠ 1 ∧ s ≠ 3)
  else if en.ki = 3 then decide (s ≠ 2)
  else if en.ki = 5 then decide (s ≠ 4)
  else false) := ⟨by unfold badB; rw [HS.out]⟩
  clear hbad
  have HH := Bx.mk (fun W => ref6_Held p en.ad en.po W hp)
  generalize badB p en = bb at HB ⊢
  generalize heldB p en.ad en.po = hh at HB HH
  unfold Po.v En.v En.cells
  unfold En.cells at HR
  by_cases k1 : en.ki = 1
  · by_cases z : s = 0
    · have b1 : (en.ki == 1) = true := beq_iff_eq.2 (by omega)
      have hz : (s != 0) = false := by rw [bne_eq_false_iff_eq]; exact z
      have HBB : Bx (bb = hh) := ⟨by rw [HB.out]; rw [if_pos k1]; simp [z]⟩
      clear HB z k1
      go_enter Try.func60, Try.ntmps60
      go_wp2_with (first | (refine wpList_load_g (by rfl) 33 _ rfl w.heap.size 0 rfl p.cells _ HR.out Try.underlying33 rfl HI.out ?_) | (go_at_call 73; refine (HH.out _).mono ?_; rintro r w' ⟨rfl, hb'⟩))
      go_ret
      exact ⟨ret_bool (by rw [HBB.out]), (((Below.refl _ _).alloc (Nat.le_refl _) _).alloc (by simp) _).trans (hb'.mono (by simp; omega))⟩
    · have b1 : (en.ki == 1) = true := beq_iff_eq.2 (by omega)
      have hz : (s != 0) = true := by rw [bne_iff_ne]; exact z
      have HBB : Bx (bb = true) := ⟨by rw [HB.out]; rw [if_pos k1]; simp [z]⟩
      clear HB z k1
      go_enter Try.func60, Try.ntmps60
      go_wp2_with fail
      go_ret
      exact ⟨ret_bool (by rw [HBB.out]), ((Below.refl _ _).alloc (Nat.le_refl _) _).alloc (by simp) _⟩
  · by_cases k2 : en.ki = 2 ∨ en.ki = 4
    · by_cases k4 : en.ki = 2
      · by_cases z : s = 1
        · have b1 : (en.ki == 1) = false := beq_eq_false_iff_ne.2 (by omega)
          have b2 : (en.ki == 2) = true := beq_iff_eq.2 (by omega)
          have hz : (s != 1) = false := by rw [bne_eq_false_iff_eq]; exact z
          have HBB : Bx (bb = false) := ⟨by rw [HB.out]; rw [if_neg k1, if_pos k2]; simp [z]⟩
          clear HB z k1 k2 k4
          go_enter Try.func60, Try.ntmps60
          go_wp2_with fail
          go_ret
          exact ⟨ret_bool (by rw [HBB.out]), ((Below.refl _ _).alloc (Nat.le_refl _) _).alloc (by simp) _⟩
        · by_cases y : s = 3
          · have b1 : (en.ki == 1) = false := beq_eq_false_iff_ne.2 (by omega)
            have b2 : (en.ki == 2) = true := beq_iff_eq.2 (by omega)
            have hz : (s != 1) = true := by rw [bne_iff_ne]; exact z
            have hy : (s != 3) = false := by rw [bne_eq_false_iff_eq]; exact y
            have HBB : Bx (bb = false) := ⟨by rw [HB.out]; rw [if_neg k1, if_pos k2]; simp [y]⟩
            clear HB z y k1 k2 k4
            go_enter Try.func60, Try.ntmps60
            go_wp2_with fail
            go_ret
            exact ⟨ret_bool (by rw [HBB.out]), ((Below.refl _ _).alloc (Nat.le_refl _) _).alloc (by simp) _⟩
          · have b1 : (en.ki == 1) = false := beq_eq_false_iff_ne.2 (by omega)
            have b2 : (en.ki == 2) = true := beq_iff_eq.2 (by omega)
            have hz : (s != 1) = true := by rw [bne_iff_ne]; exact z
            have hy : (s != 3) = true := by rw [bne_iff_ne]; exact y
            have HBB : Bx (bb = true) := ⟨by rw [HB.out]; rw [if_neg k1, if_pos k2]; simp [y, z]⟩
            clear HB z y k1 k2 k4
            go_enter Try.func60, Try.ntmps60
            go_wp2_with fail
            go_ret
            exact ⟨ret_bool (by rw [HBB.out]), ((Below.refl _ _).alloc (Nat.le_refl _) _).alloc (by simp) _⟩
      · by_cases z : s = 1
        · have b1 : (en.ki == 1) = false := beq_eq_false_iff_ne.2 (by omega)
          have b2 : (en.ki == 2) = false := beq_eq_false_iff_ne.2 (by omega)
          have b4 : (en.ki == 4) = true := beq_iff_eq.2 (by omega)
          have hz : (s != 1) = false := by rw [bne_eq_false_iff_eq]; exact z
          have HBB : Bx (bb = false) := ⟨by rw [HB.out]; rw [if_neg k1, if_pos k2]; simp [z]⟩
          clear HB z k1 k2 k4
          go_enter Try.func60, Try.ntmps60
          go_wp2_with fail
          go_ret
          exact ⟨ret_bool (by rw [HBB.out]), ((Below.refl _ _).alloc (Nat.le_refl _) _).alloc (by simp) _⟩
        · by_cases y : s = 3
          · have b1 : (en.ki == 1) = false := beq_eq_false_iff_ne.2 (by omega)
            have b2 : (en.ki == 2) = false := beq_eq_false_iff_ne.2 (by omega)
            have b4 : (en.ki == 4) = true := beq_iff_eq.2 (by omega)
            have hz : (s != 1) = true := by rw [bne_iff_ne]; exact z
            have hy : (s != 3) = false := by rw [bne_eq_false_iff_eq]; exact y
            have HBB : Bx (bb = false) := ⟨by rw [HB.out]; rw [if_neg k1, if_pos k2]; simp [y]⟩
            clear HB z y k1 k2 k4
            go_enter Try.func60, Try.ntmps60
            go_wp2_with fail
            go_ret
            exact ⟨ret_bool (by rw [HBB.out]), ((Below.refl _ _).alloc (Nat.le_refl _) _).alloc (by simp) _⟩
          · have b1 : (en.ki == 1) = false := beq_eq_false_iff_ne.2 (by omega)
            have b2 : (en.ki == 2) = false := beq_eq_false_iff_ne.2 (by omega)
            have b4 : (en.ki == 4) = true := beq_iff_eq.2 (by omega)
            have hz : (s != 1) = true := by rw [bne_iff_ne]; exact z
            have hy : (s != 3) = true := by rw [bne_iff_ne]; exact y
            have HBB : Bx (bb = true) := ⟨by rw [HB.out]; rw [if_neg k1, if_pos k2]; simp [y, z]⟩
            clear HB z y k1 k2 k4
            go_enter Try.func60, Try.ntmps60
            go_wp2_with fail
            go_ret
            exact ⟨ret_bool (by rw [HBB.out]), ((Below.refl _ _).alloc (Nat.le_refl _) _).alloc (by simp) _⟩
    · by_cases k3 : en.ki = 3
      · have b1 : (en.ki == 1) = false := beq_eq_false_iff_ne.2 (by omega)
        have b2 : (en.ki == 2) = false := beq_eq_false_iff_ne.2 (by omega)
        have b4 : (en.ki == 4) = false := beq_eq_false_iff_ne.2 (by omega)
        have b3 : (en.ki == 3) = true := beq_iff_eq.2 (by omega)
        have HBB : Bx (bb = decide (s ≠ 2)) := ⟨by rw [HB.out]; rw [if_neg k1, if_neg k2, if_pos k3]⟩
        clear HB k1 k2 k3
        go_enter Try.func60, Try.ntmps60
        go_wp2_with fail
        go_ret
        exact ⟨ret_bool (by rw [HBB.out]; by_cases h : s = 2 <;> simp [h]), ((Below.refl _ _).alloc (Nat.le_refl _) _).alloc (by simp) _⟩
      · by_cases k5 : en.ki = 5
        · have b1 : (en.ki == 1) = false := beq_eq_false_iff_ne.2 (by omega)
          have b2 : (en.ki == 2) = false := beq_eq_false_iff_ne.2 (by omega)
          have b4 : (en.ki == 4) = false := beq_eq_false_iff_ne.2 (by omega)
          have b3 : (en.ki == 3) = false := beq_eq_false_iff_ne.2 (by omega)
          have b5 : (en.ki == 5) = true := beq_iff_eq.2 (by omega)
          have HBB : Bx (bb = decide (s ≠ 4)) := ⟨by rw [HB.out]; rw [if_neg k1, if_neg k2, if_neg k3, if_pos k5]⟩
          clear HB k1 k2 k3 k5
          go_enter Try.func60, Try.ntmps60
          go_wp2_with fail
          go_ret
          exact ⟨ret_bool (by rw [HBB.out]; by_cases h : s = 4 <;> simp [h]), ((Below.refl _ _).alloc (Nat.le_refl _) _).alloc (by simp) _⟩
        · have b1 : (en.ki == 1) = false := beq_eq_false_iff_ne.2 (by omega)
          have b2 : (en.ki == 2) = false := beq_eq_false_iff_ne.2 (by omega)
          have b4 : (en.ki == 4) = false := beq_eq_false_iff_ne.2 (by omega)
          have b3 : (en.ki == 3) = false := beq_eq_false_iff_ne.2 (by omega)
          have b5 : (en.ki == 5) = false := beq_eq_false_iff_ne.2 (by omega)
          have HBB : Bx (bb = false) := ⟨by rw [HB.out]; rw [if_neg k1, if_neg k2, if_neg k3, if_neg k5]⟩
          clear HB k1 k2 k3 k5
          go_enter Try.func60, Try.ntmps60
          go_wp2_with fail
          go_ret
          exact ⟨ret_bool (by rw [HBB.out]), ((Below.refl _ _).alloc (Nat.le_refl _) _).alloc (by simp) _⟩
end Go.Proofs.Ytimdaceidhdaeaa

namespace Go.Proofs.Ytimdaceidhdaeaa
open Go.RowKit Go.Proofs

theorem tmod_within (n m : Int) (h : 0 < m) : (n.tmod m < 0 → n.tmod m + m = n % m) ∧ (¬ n.tmod m < 0 → n.tmod m = n % m) ∧ -m < n.tmod m ∧ n.tmod m < m := by
  have h1 := Int.emod_lt_of_pos n h
  have h2 := Int.emod_nonneg n (b := m) (by omega)
  have h3 := Int.tmod_add_mul_tdiv n m
  have h4 := Int.emod_add_mul_ediv n m
  rcases Int.lt_or_le n 0 with hn | hn
  · have e := Int.tmod_eq_emod (a := n) (b := m)
    by_cases hd : m ∣ n
    · rw [if_pos (Or.inr hd)] at e
      refine ⟨fun h => by omega, fun _ => by omega, by omega, by omega⟩
    · rw [if_neg (by intro h; rcases h with h | h; omega; exact hd h)] at e
      have hne : n % m ≠ 0 := fun e0 => hd (Int.dvd_of_emod_eq_zero e0)
      have : (m.natAbs : Int) = m := by omega
      refine ⟨fun h => by omega, fun _ => by omega, by omega, by omega⟩
  · rw [Int.tmod_eq_emod_of_nonneg hn]
    refine ⟨fun h => by omega, fun _ => rfl, by omega, by omega⟩

set_option maxHeartbeats 400000 in
theorem law6_within (n m : Int) (w : World) (h0 : 0 < m) (h1 : m ≤ 4611686018427387904) : Calls Try.prog 46 #[.int .i64 n, .int .i64 m] w fun r w' => r = .returned (I (n % m)) ∧ w' = w := by
  obtain ⟨t1, t2, t3, t4⟩ := tmod_within n m h0
  have hm : m ≠ 0 := by omega
  have hw : IntKind.i64.wrap (n.tmod m) = n.tmod m := IntWalk.i64_in _ (by omega)
  generalize n % m = r at t1 t2 ⊢
  by_cases hk : n.tmod m < 0
  · have t1 := t1 hk
    clear t2
    go_enter Try.func46, Try.ntmps46
    go_wp2
    go_ret
    exact ⟨rfl, rfl⟩
  · have t2 := t2 hk
    clear t1
    go_enter Try.func46, Try.ntmps46
    go_wp2
    go_ret
    exact ⟨rfl, rfl⟩
set_option maxHeartbeats 400000 in
theorem law12_within (n m : Int) (w : World) (h0 : 0 < m) (h1 : m ≤ 4611686018427387904) : Calls Try.prog 11 #[.int .i64 n, .int .i64 m] w fun r w' => r = .returned (I (n % m)) ∧ w' = w := by
  obtain ⟨t1, t2, t3, t4⟩ := tmod_within n m h0
  have hm : m ≠ 0 := by omega
  have hw : IntKind.i64.wrap (n.tmod m) = n.tmod m := IntWalk.i64_in _ (by omega)
  generalize n % m = r at t1 t2 ⊢
  by_cases hk : n.tmod m < 0
  · have t1 := t1 hk
    clear t2
    go_enter Try.func11, Try.ntmps11
    go_wp2
    go_ret
    exact ⟨rfl, rfl⟩
  · have t2 := t2 hk
    clear t1
    go_enter Try.func11, Try.ntmps11
    go_wp2
    go_ret
    exact ⟨rfl, rfl⟩
def keyOf (n : Int) : Ke := ⟨IntKind.u64.wrap (IntKind.u64.wrap n * 11400714819323198485), bits BinOp.xor IntKind.u64 (IntKind.u64.wrap n) 19088743⟩
set_option maxHeartbeats 400000 in
theorem law5_Key (n : Int) (w : World) : Calls Try.prog 30 #[.int .i64 n] w fun r w' => r = .returned (.agg #[.int .u64 (keyOf n).a, .int .u64 (keyOf n).b]) ∧ w' = w.alloc (.cells #[.int .u64 (keyOf n).a, .int .u64 (keyOf n).b] 29 (0, 0)) := by
  go_enter Try.func30, Try.ntmps30
  go_wp2
  exact bodyPost_ret (v := .agg #[.int .u64 (keyOf n).a, .int .u64 (keyOf n).b]) (by simp [results, Try.results30, go_sem, keyOf]) rfl ⟨rfl, rfl⟩
set_option maxHeartbeats 400000 in
theorem ref5_Next (ep : Int) (k0 k1 k2 k : Ke) (w : World) (h0 : 0 ≤ ep) (h1 : ep ≤ 1000000) : Calls Try.prog 61 #[.agg (Ring.cells ep k0 k1 k2).toArray, k.v] w fun r w' => r = .returned (.agg (Ring.cells (ep + 1) k1 k2 k).toArray) ∧ Below w.heap.size w w' := by
  unfold Ring.cells Ke.v
  go_enter Try.func61, Try.ntmps61
  go_wp2
  exact bodyPost_ret (v := .agg #[I (ep + 1), U k1.a, U k1.b, U k2.a, U k2.b, U k.a, U k.b]) (by simp [results, Try.results61, go_sem]) rfl ⟨rfl, (((Below.refl _ _).alloc (Nat.le_refl _) _).alloc (by simp) _).alloc (by simp; omega) _⟩
set_option maxHeartbeats 1000000 in
theorem ref5_Ring3 (ep : Int) (b : Nat) (k0 k1 k2 : Ke) (w : World) (hb : b < w.heap.size) (hk : w.heap[b]? = some (.cells #[U k0.a, U k0.b, U k1.a, U k1.b, U k2.a, U k2.b] 29 (0, 0))) : Calls Try.prog 58 #[.int .i64 ep, .slice (some ⟨b, 0, none⟩) 3 3] w fun r w' => r = .returned (.agg (Ring.cells ep k0 k1 k2).toArray) ∧ Below w.heap.size w w' := by
  have c : ∀ j v, (#[U k0.a, U k0.b, U k1.a, U k1.b, U k2.a, U k2.b] : Array Value)[j]? = some v → w.cell? ⟨b, j, none⟩ = some v := fun j v h => by rw [cell_of_row _ _ _ _ _ _ hk]; exact h
  have c0 := c 0 _ rfl
  have c1 := c 1 _ rfl
  have c2 := c 2 _ rfl
  have c3 := c 3 _ rfl
  have c4 := c 4 _ rfl
  have c5 := c 5 _ rfl
  clear c hk
  unfold Ring.cells
  go_enter Try.func58, Try.ntmps58
  go_wp2_with fail
  refine wp_loop_rounds 4 ?_
  iterate 4 (rw [rounds_succ]; go_wp2_with fail)
  exact bodyPost_ret (v := .agg #[I ep, U k0.a, U k0.b, U k1.a, U k1.b, U k2.a, U k2.b]) (by simp [results, Try.results58, go_sem]) rfl ⟨rfl, ((Below.refl _ _).alloc (Nat.le_refl _) _).alloc (by simp) _⟩
theorem build_pool (w : World) (a b e : Int) (k0 k1 k2 : Ke) : (Instr.build 33 #[(1, .int .i64 a), (2, .int .i64 b), (4, .agg (Ring.cells e k0 k1 k2).toArray)]).run Try.prog w = .ok (.agg (Po.cells ⟨0, a, b, List.replicate 64 Sl.zero, e, k0, k1, k2⟩).toArray) w := by kernel_rfl
theorem build_zero (w : World) : (Instr.build 33 #[]).run Try.prog w = .ok (.agg Po.zero.cells.toArray) w := by kernel_rfl
theorem zero33 (w : World) : (zeroValue 33).run Try.prog w = .ok (.agg Po.zero.cells.toArray) w := by kernel_rfl

def entryOf (n : Int) : En :=
  let k := n % 1125899906842624
  let s := if k / 48 % 29 = 0 then k / 48 % 66 else k / 8 % 6
  if k % 8 = 0 ∨ k % 8 = 1 then ⟨1, s, k / 400 % 5, k / 2000 % 3, 1 + k / 6000 % 8, Ke.zero⟩
  else if k % 8 = 2 then ⟨2, s, 0, 0, 0, Ke.zero⟩
  else if k % 8 = 3 then ⟨3, s, 0, 0, 0, Ke.zero⟩
  else if k % 8 = 4 then ⟨4, s, 0, 0, 0, Ke.zero⟩
  else if k % 8 = 5 then ⟨5, s, 0, 0, 0, Ke.zero⟩
  else ⟨6, 0, 0, 0, 0, keyOf k⟩
set_option maxHeartbeats 8000000 in
theorem law6_Entry (n : Int) (w : World) : Calls Try.prog 21 #[.int .i64 n] w fun r w' => r = .returned (entryOf n).v ∧ Below w.heap.size w w' := by
  have HW := Bx.mk (fun w0 => law6_within n 1125899906842624 w0 (by omega) (by omega))
  have k0 : 0 ≤ n % 1125899906842624 := Int.emod_nonneg _ (by omega)
  have k1 : n % 1125899906842624 < 1125899906842624 := Int.emod_lt_of_pos _ (by omega)
  have HE : Bx (entryOf n = (fun k : Int => let s := if k / 48 % 29 = 0 then k / 48 % 66 else k / 8 % 6
    if k % 8 = 0 ∨ k % 8 = 1 then (⟨1, s, k / 400 % 5, k / 2000 % 3, 1 + k / 6000 % 8, Ke.zero⟩ : En)
    else if k % 8 = 2 then ⟨2, s, 0, 0, 0, Ke.zero⟩
    else if k % 8 = 3 then ⟨3, s, 0, 0, 0, Ke.zero⟩
    else if k % 8 = 4 then ⟨4, s, 0, 0, 0, Ke.zero⟩
    else if k % 8 = 5 then ⟨5, s, 0, 0, 0, Ke.zero⟩
    else ⟨6, 0, 0, 0, 0, keyOf k⟩) (n % 1125899906842624)) := ⟨rfl⟩
  generalize entryOf n = en at HE ⊢
  generalize n % 1125899906842624 = k at HW k0 k1 HE
  have hk : k ≤ 1125899906842624 := by omega
  go_enter Try.func21, Try.ntmps21
  go_wp2_with (first | (go_at_call 46; refine (HW.out _).mono ?_; rintro r w' ⟨rfl, rfl⟩) | (go_at_call 30; refine (law5_Key _ _).mono ?_; rintro r w3 ⟨rfl, rfl⟩))
  go_ways
  all_goals (
    replace HE := HE.out
    simp only [beq_iff_eq, beq_eq_false_iff_ne] at *
    simp [*] at HE
    subst HE)
  all_goals
    exact bodyPost_ret (v := En.v _) (by simp [results, Try.results21, go_sem, En.v, En.cells, Ke.zero]) rfl ⟨rfl, by (repeat (first | exact Below.refl _ _ | refine Below.alloc ?_ (by simp) _))⟩
end Go.Proofs.Ytimdaceidhdaeaa

namespace Go.Proofs.Ytimdaceidhdaeaa
open Go.RowKit Go.Proofs

theorem wpList_run_build {P : Program} {ops : Array Oper} {Q : Exit → Act → World → Prop} {rest : List Oper} {o : Oper} {a : Act} {w : World} (hg : o.guard = none) (t : TypeId) (parts : Array (Nat × Operand)) (ho : o.op = .build t parts)
    (v : Value) (h1 : (Instr.build t (parts.map fun (i, x) => (i, a.eval x))).run P w = .ok v w) (h : wpList P ops Q rest (a.put o.dst v) w) : wpList P ops Q (o :: rest) a w :=
  wpList_plain hg fun K hK => by
    unfold Oper.wp execOp
    simp only [ho, Sem.run_bind, h1, Result.andThen_ok]
    exact hK _ _ h
theorem results_cell_tmp {P : Program} {fn : Func} {t u : Tmp} {ty : TypeId} (h : fn.results = #[.cell t ty, .tmp u]) (tmps : Array Value) (w : World) (b : Nat) (cs : List Value) (d : TypeDesc) (v : Value)
    (ht : tmps.getD t undef = .pointer (some ⟨b, 0, none⟩)) (hv : tmps.getD u undef = v) (hc : w.rangeAt b 0 cs) (hu : P.underlying ty = some d) (hd : d.isRow = true) (hi : (P.info? ty).map (·.size) = some cs.length) :
    (results fn tmps).run P w = .ok (.tuple #[.agg cs.toArray, v]) w := by
  subst hv
  rw [Array.getD_eq_getD_getElem?] at ht
  simp [results, h, Sem.run_bind, ht, asAddr, run_loadVar_mid w b 0 ty cs d hc hu hd hi]
theorem results_cell {P : Program} {fn : Func} {t : Tmp} {ty : TypeId} (h : fn.results = #[.cell t ty]) (tmps : Array Value) (w : World) (b : Nat) (cs : List Value) (d : TypeDesc)
    (ht : tmps.getD t undef = .pointer (some ⟨b, 0, none⟩)) (hc : w.rangeAt b 0 cs) (hu : P.underlying ty = some d) (hd : d.isRow = true) (hi : (P.info? ty).map (·.size) = some cs.length) :
    (results fn tmps).run P w = .ok (.agg cs.toArray) w := by
  rw [Array.getD_eq_getD_getElem?] at ht
  simp [results, h, Sem.run_bind, ht, asAddr, run_loadVar_mid w b 0 ty cs d hc hu hd hi]
/-- A whole row stored. -/
theorem row_stored {w : World} {b : Nat} {t : TypeId} {C : Array Value} {vs : List Value} (h : w.heap[b]? = some (.cells C t (0, 0))) (hl : vs.length = C.size) : (w.setCells b 0 vs).heap[b]? = some (.cells vs.toArray t (0, 0)) := by
  have := setCells_block vs 0 w C h
  rw [spl_all C vs hl] at this
  exact this
theorem Po.one (p : Po) : p.cells.toArray.all (·.oneCell') = true := by
  apply all_oneCell_toArray
  intro v hv
  unfold Po.cells slots Ring.cells at hv
  simp only [List.mem_append, List.mem_flatMap, Sl.cells] at hv
  rcases hv with (hv | ⟨s, _, hv⟩) | hv
  · simp at hv; rcases hv with rfl | rfl | rfl <;> rfl
  · simp at hv; rcases hv with rfl | rfl | rfl | rfl | rfl <;> rfl
  · simp at hv; rcases hv with rfl | rfl | rfl | rfl | rfl | rfl | rfl <;> rfl
theorem Po.zero_ok : Po.zero.ok := ⟨by simp [Po.zero]⟩
theorem size33s (p : Po) (h : p.ok) : (Try.prog.info? 33).map (·.size) = some p.cells.toArray.size := by rw [size33 p h]; simp

def Po.new (ad po : Int) (k n : Ke) : Po := ⟨0, ad, po, List.replicate 64 Sl.zero, 1, Ke.zero, k, n⟩
theorem Po.new_ok (ad po : Int) (k n : Ke) : (Po.new ad po k n).ok := ⟨by simp [Po.new]⟩
theorem Po.new_fit (ad po : Int) (k n : Ke) : (Po.new ad po k n).fit := by
  refine ⟨Po.new_ok _ _ _ _, by simp [Po.new], by simp [Po.new], by simp [Po.new], by simp [Po.new], ?_, ?_⟩
  all_goals
    intro i
    unfold Po.slot Po.new
    rw [List.getD_eq_getElem?_getD, List.getElem?_replicate]
    split <;> simp [Sl.zero]
theorem heap_new_at {w : World} {o : Obj} {k : Nat} (h : k = w.heap.size) : (w.alloc o).heap[k]? = some o := by subst h; exact heap_alloc_new w o
theorem heap_old_at {w : World} {o o' : Obj} {k : Nat} (h : k < w.heap.size) (e : w.heap[k]? = some o') : (w.alloc o).heap[k]? = some o' := by rw [Below.heap_alloc _ _ _ h]; exact e
theorem out_in (n l h : Int) (w : World) (h0 : l ≤ n) (h1 : n ≤ h) : Calls Try.prog 57 #[.int .i64 n, .int .i64 l, .int .i64 h] w fun e w' => e = .returned (.bool false) ∧ w' = w := by
  have := ref6_out n l h w; rw [decide_eq_false (by omega)] at this; exact this
set_option maxHeartbeats 1000000 in
theorem ref6_New (ad po : Int) (k n : Ke) (w : World) (h0 : 0 ≤ ad) (h1 : ad ≤ 4294967295) (h2 : 0 ≤ po) (h3 : po ≤ 65535) : Calls Try.prog 29 #[.int .i64 ad, .int .i64 po, k.v, n.v] w fun r w' => r = .returned (.tuple #[(Po.new ad po k n).v, I 0]) ∧ Below w.heap.size w w' := by
  have hz := fun w => zero33 w
  unfold Ke.v
  go_enter Try.func29, Try.ntmps29
  go_wp2_with (first
    | (go_at_call 57; refine (out_in _ _ _ _ (by omega) (by omega)).mono ?_; rintro r w' ⟨rfl, rfl⟩)
    | (go_at_call 58; refine (ref5_Ring3 1 (w.heap.size + 1 + 1 + 1) Ke.zero k n _ (by simp) (heap_new_at (by simp))).mono ?_; rintro r w3 ⟨rfl, hb3⟩
       have hp : w3.heap[w.heap.size + 1 + 1]? = some (.cells Po.zero.cells.toArray 33 (0, 0)) := (hb3.block _ (by simp)).trans (heap_old_at (by simp) (heap_new_at (by simp)))
       have hl := hb3.size
       have HB := Lib.hid ((((((Below.refl w.heap.size w).alloc (Nat.le_refl _) (.cells #[U k.a, U k.b] 29)).alloc (by simp) (.cells #[U n.a, U n.b] 29)).alloc (by simp; omega) (.cells Po.zero.cells.toArray 33)).alloc (by simp; omega) _).trans (hb3.mono (by simp; omega)))
       clear hb3
       simp at hl
       have HT := Lib.hid (there_of_block hp 0 (Po.new ad po k n).cells.toArray.size (by simp [Po.cells_len _ (Po.new_ok ad po k n), Po.cells_len _ Po.zero_ok]))
       have HR := Lib.hid (row_stored hp (vs := (Po.new ad po k n).cells) (by simp [Po.cells_len _ (Po.new_ok ad po k n), Po.cells_len _ Po.zero_ok]))
       have HI := Lib.hid (size33s (Po.new ad po k n) (Po.new_ok _ _ _ _))
       have HO := Lib.hid (Po.one (Po.new ad po k n))
       clear hp)
    | (refine wpList_run_build rfl 33 _ rfl (Po.new ad po k n).v ?_ ?_; (simp only [List.map_toArray, List.map_cons, List.map_nil, Act.eval, Array.getD_eq_getD_getElem?, List.getElem?_toArray, List.getElem?_cons_succ, List.getElem?_cons_zero, Option.getD_some]; exact build_pool _ ad po 1 Ke.zero k n); unfold Po.v)
    | (refine wpList_store_mid rfl 33 _ _ rfl (w.heap.size + 1 + 1) 0 _ rfl rfl HT.out HI.out HO.out ?_))
  exact bodyPost_ret (results_cell_tmp Try.results29 _ _ (w.heap.size + 1 + 1) _ _ (I 0) rfl rfl (pool_range HR.out) Try.underlying33 rfl (size33 _ (Po.new_ok _ _ _ _))) rfl ⟨rfl, below_setCells HB.out (by omega) _ _⟩
end Go.Proofs.Ytimdaceidhdaeaa
