/-
  Proved: the law roundhouselaw12.YardTwice returns true for every input, and its arguments read behind the call as they read before. Conditions: none.
  The frame of this text was written by program (the guide's proof skeleton); the walk is this session's.
-/
import Derived.Test.YtimdaceidhdaeaaRows
import Derived.WalkKit
import Derived.ProofKit
import Derived.OpenShut
import Derived.ShutString
import Derived.ChangeOld
import Derived.Below
import Derived.Test.YtimdaceidhdaeaaLawTwice14
namespace Go.Proofs.Ytimdaceidhdaeaa.yardTwice
open Go.ChangeShapes Go.WideShapes Go.ChangeAt Go.RowKit
open Go.ChangeMaps (open_string shut_string)
set_option linter.unusedVariables false

theorem own : ownKnob Try.prog.godebug = none := by kernel_rfl
theorem laidOut : laidOutB Try.prog = true := by kernel_rfl

/-- WHAT THE WALK IS TOLD OF A SLICE OF INTEGERS THAT CAME IN: it is nil; or it leads to a row of 'cap' cells, the numbers 'zs' (the first 'len' are its elements, the rest its spare room), each fitting its kind. -/
def IsRow (k : IntKind) (w : World) (a : Option Addr) (len cap : Nat) (zs : List Int) : Prop :=
  (a = none ∧ len = 0 ∧ cap = 0 ∧ zs = []) ∨
  ∃ x, a = some x ∧ len ≤ cap ∧ cap ≤ maxLen ∧ zs.length = cap ∧ (∀ i, i < zs.length → w.cell? (x.add i) = some (.int k (zs.getD i 0))) ∧ ∀ n ∈ zs, (Lit.int k n).wf = true

/-! ### STEP 1: THE WALK: the Go text returns true, AND WRITES NOTHING THAT WAS THERE: 'Below w.heap.size w w'' (Derived/Below.lean: '.refl', '.alloc', '.drew', '.setCell' at a new block, '.trans'). Open each 'IsRow' by 'rcases' AHEAD of 'go_enter'; part every test ahead of the walk. -/
open Go.Proofs.Ytimdaceidhdaeaa in
set_option maxHeartbeats 4000000 in
set_option maxRecDepth 100000 in
theorem walk (a0 : Option Addr) (len0 cap0 : Nat) (z0 : List Int) (a1 : Int) (a2 : Int) (w : World) (w0 : IsRow .i64 w a0 len0 cap0 z0) (_w1 : (Lit.int .i64 a1).wf = true) (_w2 : (Lit.int .i64 a2).wf = true) :
    Calls Try.prog 3 #[.slice a0 len0 cap0, .int .i64 a1, .int .i64 a2] w fun e w' => e = .returned (.bool true) ∧ Below w.heap.size w w' := by
  have hv := ints_in w0
  have HM := Bx.mk (fun W (hB : Below w.heap.size w W) => lw_Make hv W hB 30 (by decide) (by decide))
  have hfit := makeP_fitN (z0.take len0) 30 (by decide)
  clear w0 hv
  generalize makeP (z0.take len0) 30 = p at HM hfit
  obtain ⟨u, hu⟩ : ∃ u : Nat, a1 % 4 + 1 = u := ⟨(a1 % 4 + 1).toNat, by omega⟩
  have hu4 : 1 ≤ u ∧ u ≤ 4 := by omega
  obtain ⟨i, hi⟩ : ∃ i : Nat, a2 % (u : Int) = i := ⟨(a2 % (u : Int)).toNat, by have := Int.emod_nonneg a2 (show (u : Int) ≠ 0 by omega); omega⟩
  have hiu : i < u := by have := Int.emod_lt_of_pos a2 (show (0 : Int) < u by omega); omega
  have hC : TwC p u i := ⟨hfit.ok, hfit.v0, hfit.v1, hu4.1, by omega, hiu⟩
  have HC := Bx.mk hC
  have HW1 : Bx (∀ W, Calls Try.prog 11 #[.int .i64 a1, .int .i64 4] W fun r w' => r = .returned (I ((u : Int) - 1)) ∧ w' = W) := ⟨fun W => by have := law12_within a1 4 W (by decide) (by decide); rw [show a1 % 4 = (u : Int) - 1 by omega] at this; exact this⟩
  have HW2 : Bx (∀ W, Calls Try.prog 11 #[.int .i64 a2, .int .i64 u] W fun r w' => r = .returned (I (i : Int)) ∧ w' = W) := ⟨fun W => by have := law12_within a2 u W (by omega) (by omega); rw [hi] at this; exact this⟩
  have HL := Bx.mk (Po.cells_len _ hfit.ok)
  have HI := Bx.mk (size33s _ hfit.ok)
  have HI2 := Bx.mk (size33 _ hfit.ok)
  have HO := Bx.mk (Po.one p)
  have HK := Bx.mk (law12_known w)
  have hz := fun w => zero33 w
  have hs1 : IntKind.i64.wrap (1 + ((u : Int) - 1)) = (u : Int) := by rw [IntWalk.i64_in _ (by omega)]; omega
  have hs2 : IntKind.i64.wrap ((u : Int) - 1) = (u : Int) - 1 := IntWalk.i64_in _ (by omega)
  have hs3 : IntKind.i64.wrap ((u : Int) - 1 + 3) = (u : Int) - 1 + 3 := IntWalk.i64_in _ (by omega)
  clear hu hi hfit hC hu4 hiu
  go_enter Try.func3, Try.ntmps3
  go_upto_region 6 with (first
    | (go_at_call 9; refine HK.out.mono ?_; rintro r w1 ⟨rfl, hB1⟩; have HB := Bx.mk hB1; clear hB1)
    | (go_at_call 10; refine (HM.out _ HB.out).mono ?_; rintro r w2 ⟨rfl, hB2⟩
       have HT := Bx.mk (there_of_block (heap_alloc_new w2 (.cells Po.zero.cells.toArray 33)) 0 p.cells.toArray.size (by rw [List.size_toArray, HL.out, List.size_toArray, Po.cells_len _ Po.zero_ok]; decide))
       have HR := Bx.mk (row_stored (heap_alloc_new w2 (.cells Po.zero.cells.toArray 33)) (vs := p.cells) (by rw [HL.out, List.size_toArray, Po.cells_len _ Po.zero_ok]))
       have hBm := HB.out.trans (hB2.mono HB.out.size)
       have HBm := Bx.mk (below_setCells (hBm.alloc hBm.size (.cells Po.zero.cells.toArray 33)) hBm.size 0 p.cells)
       clear hB2 hBm HB)
    | (refine wpList_store_mid rfl 33 _ _ rfl w2.heap.size 0 _ rfl rfl HT.out HI.out HO.out ?_
       simp only [List.toList_toArray]
       generalize (w2.alloc (.cells Po.zero.cells.toArray 33)).setCells w2.heap.size 0 p.cells = w3 at HR HBm ⊢
       generalize w2.heap.size = pb at HR ⊢
       have HRg := Bx.mk (pool_range HR.out))
    | (go_at_call 11; refine (HW1.out _).mono ?_; rintro r w' ⟨rfl, rfl⟩)
    | (go_at_call 11; refine (HW2.out _).mono ?_; rintro r w' ⟨rfl, rfl⟩)
    | (refine wpList_load_mid rfl 33 _ rfl pb 0 rfl p.cells _ HRg.out Try.underlying33 rfl HI2.out ?_)
    | (go_at_call 12; refine (tw_New HC.out HBm.out HR.out).mono ?_; rintro r w4 ⟨yb, rfl, hE⟩; have HE := Bx.mk hE; clear hE))
  clear HL HI HI2 HO HT HR HRg HM HK HW1 hz hs1
  go_upto_region 8 with (go_at_call 13; refine (tw_Tick HC.out HE.out).mono ?_; rintro r w5 ⟨rfl, hE⟩; clear HE; have HE1 := Bx.mk hE; clear hE)
  go_upto_region 9 with (go_at_call 11; refine (HW2.out _).mono ?_; rintro r w' ⟨rfl, rfl⟩)
  clear HW2
  go_upto_region 10 with (first
    | (go_at_call 14; refine (tw_D1 HC.out HE1.out).mono ?_; rintro r w6 ⟨rfl, hE⟩; clear HE1; have HE2 := Bx.mk hE; clear hE)
    | (go_at_call 14; refine (tw_D2 HC.out HE2.out).mono ?_; rintro r w7 ⟨rfl, hE⟩; clear HE2; have HE3 := Bx.mk hE; clear hE)
    | (go_at_call 14; refine (tw_D3 HC.out HE3.out).mono ?_; rintro r w8 ⟨rfl, hE⟩; clear HE3; have HE4 := Bx.mk hE; clear hE))
  go_upto_region 11 with (go_at_call 15; refine (tw_Version HC.out HE4.out).mono ?_; rintro r w9 ⟨rfl, hE⟩; clear HE4; have HE5 := Bx.mk hE; clear hE; have c9 : w9.cell? ⟨pb, 0, none⟩ = some (I p.ver) := (by rw [cell_of_row _ _ _ _ _ _ HE5.out.row, List.getElem?_toArray]; exact p.at_ver))
  go_wp2_with (go_at_call 16; refine (tw_Notes HC.out HE5.out).mono ?_; rintro r w' ⟨rfl, rfl⟩)
  go_ret
  exact ⟨rfl, HE5.out.below⟩

/-! ### THE ROW's STEP: WRITTEN OUT: LEAVE IT -/
set_option maxRecDepth 100000 in
theorem lifted (os : Os) (started : os.Started) (H : Type) (enc : TypeId × Value → H) :
    ReturnsInHanded {} Try.checked os 3 .any (Rows.yardTwiceSpec.pre6 enc Try.prog Try.f3 Rows.yardTwiceRow.domain false) (Rows.yardTwiceSpec.post enc Try.prog Try.f3 false true false false) := by
  refine returnsInHanded_of_change (C := Try.checked) own started (by kernel_rfl) Try.func3
    (ChangeSpec.witness6 (enc := enc) (C := Try.checked) false ⟨#[], #[.slice none 0 0, .int .i64 0, .int .i64 0], []⟩ 8 (by kernel_rfl) (by kernel_rfl) (by kernel_rfl) (by kernel_rfl)) ?_
  intro W base args ds gs before hval0 hW hcnd _
  have hval : ∀ (j : Nat) t v, Try.f3.params[j]? = some t → args[j]? = some v → Value.okWide Try.prog W .any base t v := hval0
  have hW' := hW
  obtain ⟨p, q, hA0, hV, rfl, hfz, hnd⟩ := hW
  have hA : DataW.TrodAll enc Try.prog W 0 (fun _ => true) true Try.f3.params.toList args.toList ds p := hA0
  rw [Try.params3] at hA hval
  obtain ⟨v0, vs0, d0, ds0, p0, q0, hargs, rfl, rfl, h0, r0⟩ := trodAll_cons hA
  obtain ⟨v1, vs1, d1, ds1, p1, q1, rfl, rfl, rfl, h1, r1⟩ := trodAll_cons r0
  obtain ⟨v2, vs2, d2, ds2, p2, q2, rfl, rfl, rfl, h2, r2⟩ := trodAll_cons r1
  obtain ⟨rfl, rfl, rfl⟩ := trodAll_nil r2
  obtain rfl : args = #[v0, v1, v2] := by cases args; simp_all
  obtain ⟨rfl, rfl⟩ := trodVars_none hV
  obtain ⟨a0, len0, cap0, rfl⟩ := okWide_slice Try.underlying22 (hval 0 22 v0 rfl rfl)
  have k0 := h0
  have lt0 : ∀ x ∈ p0, x.block < W.heap.size := by obtain ⟨m, hm⟩ := k0; exact DataW.trod_lt m _ _ _ hm
  obtain ⟨z0, w0⟩ : ∃ zs, IsRow .i64 W a0 len0 cap0 zs := by
    obtain ⟨fuel, hf⟩ := h0
    rcases open_ints Try.underlying22 Try.underlying3 (by kernel_rfl) hf with ⟨hcs, _⟩ | ⟨x, l, c, zs, hcs, _, hl, hm, hz, _, hcell, hwz⟩
    · simp [Value.cells] at hcs
      obtain ⟨rfl, rfl, rfl⟩ := hcs
      exact ⟨[], .inl ⟨rfl, rfl, rfl, rfl⟩⟩
    · simp [Value.cells] at hcs
      obtain ⟨rfl, rfl, rfl⟩ := hcs
      exact ⟨zs, .inr ⟨_, rfl, hl, hm, by simpa using hz, hcell, hwz⟩⟩
  obtain ⟨a1, rfl, rfl, rfl, w1⟩ := open_int Try.underlying3 (hval 1 3 v1 rfl rfl) h1
  obtain ⟨a2, rfl, rfl, rfl, w2⟩ := open_int Try.underlying3 (hval 2 3 v2 rfl rfl) h2
  clear hA0 hval0
  refine (walk a0 len0 cap0 z0 a1 a2 W w0 w1 w2).mono fun e W' ⟨he, bel⟩ => ?_
  subst he
  exact ⟨_, rfl, _, _, _, [], _, [], hW', trodAll_mk1 (shut_bool Try.underlying4 _), (trodAll_cons_mk (Below.trod laidOut (by kernel_rfl) (of_decide_eq_true (by kernel_rfl)) k0 bel lt0) (trodAll_cons_mk (shut_int Try.underlying3 w1) (trodAll_cons_mk (shut_int Try.underlying3 w2) trodAll_mk0))), rfl, bel.frame _, fun h => by cases h⟩

theorem over : Rows.yardTwiceRow.holds Try.pinned (OpenSpec.ofChange Rows.yardTwiceSpec) :=
  OpenClaim.holds_of_wide 3 Try.f3 rfl rfl rfl rfl rfl rfl rfl ⟨rfl, rfl, rfl, rfl, rfl⟩ rfl rfl rfl rfl rfl (by kernel_rfl) Try.func3 (by kernel_rfl)
    (of_decide_eq_true (by kernel_rfl)) (by unfold Func.isWrapper; first | (rw [if_pos (by decide +kernel)]; kernel_rfl) | (rw [if_neg (by decide +kernel)]; exact ⟨rfl, rfl⟩))
    (fun os started H enc _ => lifted os started H enc)

/-- ████ THE STATEMENT ████ -/
theorem proved : Rows.YardTwiceSaid := over
#print axioms proved
end Go.Proofs.Ytimdaceidhdaeaa.yardTwice
