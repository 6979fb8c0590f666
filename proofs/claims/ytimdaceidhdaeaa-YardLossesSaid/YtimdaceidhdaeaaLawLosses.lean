/-
  Proved: the law roundhouselaw12.YardLosses returns true for every input, and its arguments read behind the call as they read before. Conditions: none.
  The frame of this text was written by program (the guide's proof skeleton); the walk is this session's.
-/
import Derived.Test.YtimdaceidhdaeaaRows
import Derived.WalkKit
import Derived.ProofKit
import Derived.OpenShut
import Derived.ShutString
import Derived.ChangeOld
import Derived.Below
import Derived.Test.YtimdaceidhdaeaaLawLosses14
namespace Go.Proofs.Ytimdaceidhdaeaa.yardLosses
open Go.ChangeShapes Go.WideShapes Go.ChangeAt Go.RowKit
open Go.ChangeMaps (open_string shut_string)
set_option linter.unusedVariables false

theorem own : ownKnob Try.prog.godebug = none := by kernel_rfl
theorem laidOut : laidOutB Try.prog = true := by kernel_rfl

/-- WHAT THE WALK IS TOLD OF A SLICE OF INTEGERS THAT CAME IN: it is nil; or it leads to a row of 'cap' cells, the numbers 'zs' (the first 'len' are its elements, the rest its spare room), each fitting its kind. -/
def IsRow (k : IntKind) (w : World) (a : Option Addr) (len cap : Nat) (zs : List Int) : Prop :=
  (a = none ∧ len = 0 ∧ cap = 0 ∧ zs = []) ∨
  ∃ x, a = some x ∧ len ≤ cap ∧ cap ≤ maxLen ∧ zs.length = cap ∧ (∀ i, i < zs.length → w.cell? (x.add i) = some (.int k (zs.getD i 0))) ∧ ∀ n ∈ zs, (Lit.int k n).wf = true

/-! ### STEP 1: THE WALK: the Go text returns true, AND WRITES NOTHING THAT WAS THERE: 'Below w.heap.size w w'' (Derived/Below.lean: '.refl', '.alloc', '.drew', '.setCell' at a new block, '.trans'). Open each 'IsRow' by 'rcases' AHEAD of 'go_enter'; part every test ahead of the walk. -/
open Go.Proofs.Ytimdaceidhdaeaa in
set_option maxHeartbeats 2000000 in
set_option maxRecDepth 100000 in
theorem walk (a0 : Option Addr) (len0 cap0 : Nat) (z0 : List Int) (a1 : Int) (a2 : Option Addr) (len2 cap2 : Nat) (z2 : List Int) (w : World) (w0 : IsRow .i64 w a0 len0 cap0 z0) (w1 : (Lit.int .i64 a1).wf = true) (w2 : IsRow .i64 w a2 len2 cap2 z2) :
    Calls Try.prog 4 #[.slice a0 len0 cap0, .int .i64 a1, .slice a2 len2 cap2] w fun e w' => e = .returned (.bool true) ∧ Below w.heap.size w w' := by
  have hv := ints_in w0
  have HKS := Bx.mk (ints_cells w2)
  have HM := Bx.mk (fun W (hB : Below w.heap.size w W) => lw_Make hv W hB 30 (by decide) (by decide))
  have hfit := makeP_fitN (z0.take len0) 30 (by decide)
  clear w0 hv w2
  generalize makeP (z0.take len0) 30 = p at HM hfit
  obtain ⟨u, hu⟩ : ∃ u : Nat, a1 % 6 + 1 = u := ⟨(a1 % 6 + 1).toNat, by omega⟩
  have hu4 : 1 ≤ u ∧ u ≤ 6 := by omega
  have hC : LoC p u := ⟨hfit.ok, hfit.v0, hfit.v1, hu4.1, hu4.2⟩
  have HC := Bx.mk hC
  have HW1 : Bx (∀ W, Calls Try.prog 11 #[.int .i64 a1, .int .i64 6] W fun r w' => r = .returned (I ((u : Int) - 1)) ∧ w' = W) := ⟨fun W => by have := law12_within a1 6 W (by decide) (by decide); rw [show a1 % 6 = (u : Int) - 1 by omega] at this; exact this⟩
  have HL := Bx.mk (Po.cells_len _ hfit.ok)
  have HI := Bx.mk (size33s _ hfit.ok)
  have HI2 := Bx.mk (size33 _ hfit.ok)
  have HO := Bx.mk (Po.one p)
  have HK := Bx.mk (law12_known w)
  have hz := fun w => zero33 w
  have hs1 : IntKind.i64.wrap (1 + ((u : Int) - 1)) = (u : Int) := by rw [IntWalk.i64_in _ (by omega)]; omega
  clear hu hfit hC hu4
  go_enter Try.func4, Try.ntmps4
  go_upto_region 6 with (first
    | (go_at_call 9; refine HK.out.mono ?_; rintro r w1 ⟨rfl, hB1⟩; have HB := Bx.mk hB1; clear hB1)
    | (go_at_call 10; refine (HM.out _ HB.out).mono ?_; rintro r w2 ⟨rfl, hB2⟩
       have HT := Bx.mk (there_of_block (heap_alloc_new w2 (.cells Po.zero.cells.toArray 33)) 0 p.cells.toArray.size (by rw [List.size_toArray, HL.out, List.size_toArray, Po.cells_len _ Po.zero_ok]; decide))
       have HR := Bx.mk (row_stored (heap_alloc_new w2 (.cells Po.zero.cells.toArray 33)) (vs := p.cells) (by rw [HL.out, List.size_toArray, Po.cells_len _ Po.zero_ok]))
       have hBm := HB.out.trans (hB2.mono HB.out.size)
       have HBm := Bx.mk (below_setCells (hBm.alloc hBm.size (.cells Po.zero.cells.toArray 33)) hBm.size 0 p.cells)
       clear hB2 hBm HB)
    | (refine wpList_store_mid rfl 33 _ _ rfl w2.heap.size 0 _ rfl rfl HT.out HI.out HO.out ?_
       generalize (w2.alloc (.cells Po.zero.cells.toArray 33)).setCells w2.heap.size 0 p.cells = w3 at HR HBm ⊢
       generalize w2.heap.size = pb at HR ⊢
       have HRg := Bx.mk (pool_range HR.out))
    | (go_at_call 11; refine (HW1.out _).mono ?_; rintro r w' ⟨rfl, rfl⟩)
    | (refine wpList_load_mid rfl 33 _ rfl pb 0 rfl p.cells _ HRg.out Try.underlying33 rfl HI2.out ?_)
    | (go_at_call 12; refine (lo_New HC.out HBm.out HR.out).mono ?_; rintro r w4 ⟨yb, rfl, hE⟩; have HE := Bx.mk hE; clear hE))
  clear HL HI HI2 HO HT HR HRg HM HK HW1 hz hs1
  go_upto_region 9 with (go_at_call 13; refine (lo_Tick HC.out HE.out).mono ?_; rintro r w5 ⟨rfl, hE⟩; clear HE; have HE1 := Bx.mk hE; clear hE)
  go_wp2_with fail
  clear HBm
  go_loopg [11, 12] 10 (fun m nv iv wr => ∃ k n : Nat, m + k = 10 ∧ nv = .int .i64 n ∧ iv = .int .i64 k ∧ LoE w yb pb p u n wr)
  case atStart => exact ⟨0, u, rfl, rfl, rfl, HE1.out⟩
  case round =>
    obtain ⟨k, n, hk, rfl, rfl, hE⟩ := hrel
    clear HE1
    by_cases hlt : k < len2 ∧ k < 10
    · obtain ⟨b, off, rfl, hb, hc⟩ := HKS.out k hlt.1
      have d1 : decide (k < len2) = true := decide_eq_true hlt.1
      have d1' : decide ((k : Int) < (len2 : Int)) = true := decide_eq_true (by omega)
      have d2 : decide ((k : Int) < 10) = true := decide_eq_true (by omega)
      have k0 : (0 : Int) ≤ (k : Int) := by omega
      have k1 : k < len2 := hlt.1
      have hcell := (hE.below.cell (p := ⟨b, off + k, none⟩) hb).trans hc
      obtain ⟨z, hz⟩ : ∃ z, z2.getD k 0 = z := ⟨_, rfl⟩
      rw [hz] at hcell
      obtain ⟨kk, hkk⟩ : ∃ kk : Int, z % 12 - 2 = kk := ⟨_, rfl⟩
      have HW1 : Bx (∀ W, Calls Try.prog 11 #[.int .i64 z, .int .i64 12] W fun r w' => r = .returned (I (kk + 2)) ∧ w' = W) := ⟨fun W => by have := law12_within z 12 W (by decide) (by decide); rw [show z % 12 = kk + 2 by omega] at this; exact this⟩
      have hs4 : IntKind.i64.wrap (kk + 2 - 2) = kk := by rw [IntWalk.i64_in _ (by omega)]; omega
      have hs6 : IntKind.i64.wrap kk = kk := by rw [IntWalk.i64_in _ (by omega)]
      have HKK := Bx.mk (show -2 ≤ kk ∧ kk < 10 by omega)
      have HE := Bx.mk hE
      have HX := Bx.mk hlt
      clear hE hlt hc hkk hb hz
      go_upto_region 15 with (go_at_call 11; refine (HW1.out _).mono ?_; rintro r w' ⟨rfl, rfl⟩)
      clear d1 d1' d2 k1 hcell HW1 hs4 hs6 HKS
      by_cases c : 0 ≤ kk
      · obtain ⟨j, rfl⟩ : ∃ j : Nat, kk = j := ⟨kk.toNat, by omega⟩
        have c1 : decide ((0 : Int) ≤ (j : Int)) = true := decide_eq_true c
        by_cases cn : j < n
        · have c2 : decide (j < n) = true := decide_eq_true cn
          have hs5 : IntKind.i64.wrap ((n : Int) - 1) = ((n - 1 : Nat) : Int) := by have := HE.out.le; have := HC.out.u2; rw [IntWalk.i64_in _ (by omega)]; omega
          have HN := Bx.mk cn
          clear c cn
          go_wp2_with (first
            | (go_at_call 17; refine (lo_Lose_in HC.out HE.out _ HN.out).mono ?_; rintro r w6 ⟨rfl, hE⟩; clear HE; have HE3 := Bx.mk hE; clear hE)
            | (go_at_call 16; refine (lo_Notes HE3.out).mono ?_; rintro r w7 ⟨rfl, rfl⟩))
          go_roundg (gk - 1)
          case measure => have := HX.out; omega
          case rel => exact ⟨k + 1, n - 1, by have := HX.out; omega, rfl, by go_num, HE3.out⟩
        · have c2 : decide (j < n) = false := decide_eq_false cn
          have HN := Bx.mk cn
          clear c cn
          go_wp2_with (first
            | (go_at_call 17; refine (lo_Lose_out HE.out _ (.inr (by have := HN.out; omega))).mono ?_; rintro r w6 ⟨rfl, hE⟩; clear HE; have HE3 := Bx.mk hE; clear hE)
            | (go_at_call 16; refine (lo_Notes HE3.out).mono ?_; rintro r w7 ⟨rfl, rfl⟩))
          go_roundg (gk - 1)
          case measure => have := HX.out; omega
          case rel => exact ⟨k + 1, n, by have := HX.out; omega, rfl, by go_num, HE3.out⟩
      · have c1 : decide ((0 : Int) ≤ kk) = false := decide_eq_false c
        have HN := Bx.mk c
        clear c
        go_wp2_with (first
          | (go_at_call 17; refine (lo_Lose_out HE.out _ (.inl (by have := HN.out; omega))).mono ?_; rintro r w6 ⟨rfl, hE⟩; clear HE; have HE3 := Bx.mk hE; clear hE)
          | (go_at_call 16; refine (lo_Notes HE3.out).mono ?_; rintro r w7 ⟨rfl, rfl⟩))
        go_roundg (gk - 1)
        case measure => have := HX.out; omega
        case rel => exact ⟨k + 1, n, by have := HX.out; omega, rfl, by go_num, HE3.out⟩
    · have HE := Bx.mk hE
      clear hE HKS
      by_cases cl : k < len2
      · have d1 : decide (k < len2) = true := decide_eq_true cl
        have d2 : decide ((k : Int) < 10) = false := decide_eq_false (by omega)
        clear hlt cl
        go_wp2_with fail
        go_loopg [14] (2 * n) (fun m dv wr => ∃ d : Nat, m + d = 2 * n ∧ dv = .int .i64 d ∧ LoF w yb pb p u n d wr)
        case atStart => exact ⟨0, by omega, rfl, HE.out.start⟩
        case round =>
          obtain ⟨d, hd, rfl, hE⟩ := hrel
          clear HE
          rcases hE.ways with ⟨hi, hlt, hle⟩ | ⟨s, hG⟩
          · have d3 : decide ((d : Int) < 100) = true := decide_eq_true (by have := HC.out.u2; omega)
            have HE := Bx.mk hi
            have HX := Bx.mk hlt
            have HLE := Bx.mk hle
            have hs7 : IntKind.i64.wrap ((d : Int) + 1) = ((d + 1 : Nat) : Int) := by have := HC.out.u2; rw [IntWalk.i64_in _ (by omega)]; omega
            clear hE hi hlt hle
            go_wp2_with (go_at_call 14; refine (lo_Deliver_in HC.out HE.out).mono ?_; rintro r w6 ⟨rfl, hE⟩; clear HE; have HE3 := Bx.mk hE; clear hE)
            go_roundg (gk - 1)
            case measure => have := HX.out; omega
            case rel => exact ⟨d + 1, by have := HX.out; omega, by have := HX.out; have := HC.out.u2; have := HLE.out; first | rfl | (rw [IntWalk.i64_in _ (by omega)]; rfl), HE3.out⟩
          · have HE := Bx.mk hG
            clear hE hG
            go_wp2_with (go_at_call 14; refine (lo_Deliver_out HE.out).mono ?_; rintro r w6 ⟨rfl, hE⟩; clear HE; have HE3 := Bx.mk hE; clear hE)
            clear hd
            go_loopg [15, 16] u (fun m up i wr => ∃ c : Nat, m + c = u ∧ up = .int .i64 (upK s c) ∧ i = .int .i64 c ∧ LoG w yb pb p u n d s wr)
            case atStart => exact ⟨0, rfl, by rw [upK_zero]; rfl, rfl, HE3.out⟩
            case round =>
              obtain ⟨c, hc, rfl, rfl, hE⟩ := hrel
              clear HE3
              by_cases hcu : c < u
              · have d4 : decide (c < u) = true := decide_eq_true hcu
                have HX := Bx.mk hcu
                have hup := upK_le s c
                have hu2 := HC.out.u2
                have hs7 : IntKind.i64.wrap ((upK s c : Int) + 1) = ((upK s c + 1 : Nat) : Int) := by rw [IntWalk.i64_in _ (by omega)]; omega
                have hs9 : IntKind.i64.wrap ((c : Int) + 1) = ((c + 1 : Nat) : Int) := by rw [IntWalk.i64_in _ (by omega)]; omega
                have HV := Bx.mk (lo_Version HC.out hE c hcu)
                cases hb : (s.us.getD c ⟨0, .none⟩).up with
                | true =>
                  have HUP := Bx.mk (upK_up hE c hcu hb)
                  rw [hb] at HV
                  clear hcu hup hu2 hE hb
                  generalize (s.us.getD c ⟨0, .none⟩).low = low at HV
                  go_wp2_with (go_at_call 15; refine HV.out.mono ?_; rintro r w8 ⟨rfl, hE⟩; have HE4 := Bx.mk hE; clear hE)
                  go_roundg (gk - 1)
                  case measure => have := HX.out; omega
                  case rel => exact ⟨c + 1, by have := HX.out; omega, by rw [HUP.out]; first | done | rfl, by first | rfl | go_num, HE4.out⟩
                | false =>
                  have HUP := Bx.mk (upK_down hE c hcu hb)
                  rw [hb] at HV
                  clear hcu hup hu2 hE hb
                  generalize (s.us.getD c ⟨0, .none⟩).low = low at HV
                  go_wp2_with (go_at_call 15; refine HV.out.mono ?_; rintro r w8 ⟨rfl, hE⟩; have HE4 := Bx.mk hE; clear hE)
                  go_roundg (gk - 1)
                  case measure => have := HX.out; omega
                  case rel => exact ⟨c + 1, by have := HX.out; omega, by rw [HUP.out]; first | done | rfl, by first | rfl | go_num, HE4.out⟩
              · have d4 : decide (c < u) = false := decide_eq_false hcu
                have hcu2 : c = u := by omega
                subst hcu2
                have hall := upK_all hE
                have hd := hE.d
                have hbel := hE.law.below
                have hu2 := HC.out.u2
                have hle := hE.le
                have hs8 : IntKind.i64.wrap (2 * (n : Int)) = ((2 * n : Nat) : Int) := by rw [IntWalk.i64_in _ (by omega)]; omega
                rw [hall]
                subst hd
                have HZ := Bx.mk hbel
                clear hE hbel hu2 hle hcu hall hc
                go_wp2_with fail
                go_ret
                exact ⟨rfl, HZ.out⟩
      · have d1 : decide (k < len2) = false := decide_eq_false cl
        clear hlt cl
        go_wp2_with fail
        go_loopg [14] (2 * n) (fun m dv wr => ∃ d : Nat, m + d = 2 * n ∧ dv = .int .i64 d ∧ LoF w yb pb p u n d wr)
        case atStart => exact ⟨0, by omega, rfl, HE.out.start⟩
        case round =>
          obtain ⟨d, hd, rfl, hE⟩ := hrel
          clear HE
          rcases hE.ways with ⟨hi, hlt, hle⟩ | ⟨s, hG⟩
          · have d3 : decide ((d : Int) < 100) = true := decide_eq_true (by have := HC.out.u2; omega)
            have HE := Bx.mk hi
            have HX := Bx.mk hlt
            have HLE := Bx.mk hle
            have hs7 : IntKind.i64.wrap ((d : Int) + 1) = ((d + 1 : Nat) : Int) := by have := HC.out.u2; rw [IntWalk.i64_in _ (by omega)]; omega
            clear hE hi hlt hle
            go_wp2_with (go_at_call 14; refine (lo_Deliver_in HC.out HE.out).mono ?_; rintro r w6 ⟨rfl, hE⟩; clear HE; have HE3 := Bx.mk hE; clear hE)
            go_roundg (gk - 1)
            case measure => have := HX.out; omega
            case rel => exact ⟨d + 1, by have := HX.out; omega, by have := HX.out; have := HC.out.u2; have := HLE.out; first | rfl | (rw [IntWalk.i64_in _ (by omega)]; rfl), HE3.out⟩
          · have HE := Bx.mk hG
            clear hE hG
            go_wp2_with (go_at_call 14; refine (lo_Deliver_out HE.out).mono ?_; rintro r w6 ⟨rfl, hE⟩; clear HE; have HE3 := Bx.mk hE; clear hE)
            clear hd
            go_loopg [15, 16] u (fun m up i wr => ∃ c : Nat, m + c = u ∧ up = .int .i64 (upK s c) ∧ i = .int .i64 c ∧ LoG w yb pb p u n d s wr)
            case atStart => exact ⟨0, rfl, by rw [upK_zero]; rfl, rfl, HE3.out⟩
            case round =>
              obtain ⟨c, hc, rfl, rfl, hE⟩ := hrel
              clear HE3
              by_cases hcu : c < u
              · have d4 : decide (c < u) = true := decide_eq_true hcu
                have HX := Bx.mk hcu
                have hup := upK_le s c
                have hu2 := HC.out.u2
                have hs7 : IntKind.i64.wrap ((upK s c : Int) + 1) = ((upK s c + 1 : Nat) : Int) := by rw [IntWalk.i64_in _ (by omega)]; omega
                have hs9 : IntKind.i64.wrap ((c : Int) + 1) = ((c + 1 : Nat) : Int) := by rw [IntWalk.i64_in _ (by omega)]; omega
                have HV := Bx.mk (lo_Version HC.out hE c hcu)
                cases hb : (s.us.getD c ⟨0, .none⟩).up with
                | true =>
                  have HUP := Bx.mk (upK_up hE c hcu hb)
                  rw [hb] at HV
                  clear hcu hup hu2 hE hb
                  generalize (s.us.getD c ⟨0, .none⟩).low = low at HV
                  go_wp2_with (go_at_call 15; refine HV.out.mono ?_; rintro r w8 ⟨rfl, hE⟩; have HE4 := Bx.mk hE; clear hE)
                  go_roundg (gk - 1)
                  case measure => have := HX.out; omega
                  case rel => exact ⟨c + 1, by have := HX.out; omega, by rw [HUP.out]; first | done | rfl, by first | rfl | go_num, HE4.out⟩
                | false =>
                  have HUP := Bx.mk (upK_down hE c hcu hb)
                  rw [hb] at HV
                  clear hcu hup hu2 hE hb
                  generalize (s.us.getD c ⟨0, .none⟩).low = low at HV
                  go_wp2_with (go_at_call 15; refine HV.out.mono ?_; rintro r w8 ⟨rfl, hE⟩; have HE4 := Bx.mk hE; clear hE)
                  go_roundg (gk - 1)
                  case measure => have := HX.out; omega
                  case rel => exact ⟨c + 1, by have := HX.out; omega, by rw [HUP.out]; first | done | rfl, by first | rfl | go_num, HE4.out⟩
              · have d4 : decide (c < u) = false := decide_eq_false hcu
                have hcu2 : c = u := by omega
                subst hcu2
                have hall := upK_all hE
                have hd := hE.d
                have hbel := hE.law.below
                have hu2 := HC.out.u2
                have hle := hE.le
                have hs8 : IntKind.i64.wrap (2 * (n : Int)) = ((2 * n : Nat) : Int) := by rw [IntWalk.i64_in _ (by omega)]; omega
                rw [hall]
                subst hd
                have HZ := Bx.mk hbel
                clear hE hbel hu2 hle hcu hall hc
                go_wp2_with fail
                go_ret
                exact ⟨rfl, HZ.out⟩

/-! ### THE ROW's STEP: WRITTEN OUT: LEAVE IT -/
set_option maxRecDepth 100000 in
theorem lifted (os : Os) (started : os.Started) (H : Type) (enc : TypeId × Value → H) :
    ReturnsInHanded {} Try.checked os 4 .any (Rows.yardLossesSpec.pre6 enc Try.prog Try.f4 Rows.yardLossesRow.domain false) (Rows.yardLossesSpec.post enc Try.prog Try.f4 false true false false) := by
  refine returnsInHanded_of_change (C := Try.checked) own started (by kernel_rfl) Try.func4
    (ChangeSpec.witness6 (enc := enc) (C := Try.checked) false ⟨#[], #[.slice none 0 0, .int .i64 0, .slice none 0 0], []⟩ 8 (by kernel_rfl) (by kernel_rfl) (by kernel_rfl) (by kernel_rfl)) ?_
  intro W base args ds gs before hval0 hW hcnd _
  have hval : ∀ (j : Nat) t v, Try.f4.params[j]? = some t → args[j]? = some v → Value.okWide Try.prog W .any base t v := hval0
  have hW' := hW
  obtain ⟨p, q, hA0, hV, rfl, hfz, hnd⟩ := hW
  have hA : DataW.TrodAll enc Try.prog W 0 (fun _ => true) true Try.f4.params.toList args.toList ds p := hA0
  rw [Try.params4] at hA hval
  obtain ⟨v0, vs0, d0, ds0, p0, q0, hargs, rfl, rfl, h0, r0⟩ := trodAll_cons hA
  obtain ⟨v1, vs1, d1, ds1, p1, q1, rfl, rfl, rfl, h1, r1⟩ := trodAll_cons r0
  obtain ⟨v2, vs2, d2, ds2, p2, q2, rfl, rfl, rfl, h2, r2⟩ := trodAll_cons r1
  obtain ⟨rfl, rfl, rfl⟩ := trodAll_nil r2
  obtain rfl : args = #[v0, v1, v2] := by cases args; simp_all
  obtain ⟨rfl, rfl⟩ := trodVars_none hV
  obtain ⟨a0, len0, cap0, rfl⟩ := okWide_slice Try.underlying22 (hval 0 22 v0 rfl rfl)
  have k0 := h0
  have lt0 : ∀ x ∈ p0, x.block < W.heap.size := by obtain ⟨m, hm⟩ := k0; exact DataW.trod_lt m _ _ _ hm
  obtain ⟨z0, w0⟩ : ∃ zs, IsRow .i64 W a0 len0 cap0 zs := by
    obtain ⟨fuel, hf⟩ := h0
    rcases open_ints Try.underlying22 Try.underlying3 (by kernel_rfl) hf with ⟨hcs, _⟩ | ⟨x, l, c, zs, hcs, _, hl, hm, hz, _, hcell, hwz⟩
    · simp [Value.cells] at hcs
      obtain ⟨rfl, rfl, rfl⟩ := hcs
      exact ⟨[], .inl ⟨rfl, rfl, rfl, rfl⟩⟩
    · simp [Value.cells] at hcs
      obtain ⟨rfl, rfl, rfl⟩ := hcs
      exact ⟨zs, .inr ⟨_, rfl, hl, hm, by simpa using hz, hcell, hwz⟩⟩
  obtain ⟨a1, rfl, rfl, rfl, w1⟩ := open_int Try.underlying3 (hval 1 3 v1 rfl rfl) h1
  obtain ⟨a2, len2, cap2, rfl⟩ := okWide_slice Try.underlying22 (hval 2 22 v2 rfl rfl)
  have k2 := h2
  have lt2 : ∀ x ∈ p2, x.block < W.heap.size := by obtain ⟨m, hm⟩ := k2; exact DataW.trod_lt m _ _ _ hm
  obtain ⟨z2, w2⟩ : ∃ zs, IsRow .i64 W a2 len2 cap2 zs := by
    obtain ⟨fuel, hf⟩ := h2
    rcases open_ints Try.underlying22 Try.underlying3 (by kernel_rfl) hf with ⟨hcs, _⟩ | ⟨x, l, c, zs, hcs, _, hl, hm, hz, _, hcell, hwz⟩
    · simp [Value.cells] at hcs
      obtain ⟨rfl, rfl, rfl⟩ := hcs
      exact ⟨[], .inl ⟨rfl, rfl, rfl, rfl⟩⟩
    · simp [Value.cells] at hcs
      obtain ⟨rfl, rfl, rfl⟩ := hcs
      exact ⟨zs, .inr ⟨_, rfl, hl, hm, by simpa using hz, hcell, hwz⟩⟩
  clear hA0 hval0
  refine (walk a0 len0 cap0 z0 a1 a2 len2 cap2 z2 W w0 w1 w2).mono fun e W' ⟨he, bel⟩ => ?_
  subst he
  exact ⟨_, rfl, _, _, _, [], _, [], hW', trodAll_mk1 (shut_bool Try.underlying4 _), (trodAll_cons_mk (Below.trod laidOut (by kernel_rfl) (of_decide_eq_true (by kernel_rfl)) k0 bel lt0) (trodAll_cons_mk (shut_int Try.underlying3 w1) (trodAll_cons_mk (Below.trod laidOut (by kernel_rfl) (of_decide_eq_true (by kernel_rfl)) k2 bel lt2) trodAll_mk0))), rfl, bel.frame _, fun h => by cases h⟩

theorem over : Rows.yardLossesRow.holds Try.pinned (OpenSpec.ofChange Rows.yardLossesSpec) :=
  OpenClaim.holds_of_wide 4 Try.f4 rfl rfl rfl rfl rfl rfl rfl ⟨rfl, rfl, rfl, rfl, rfl⟩ rfl rfl rfl rfl rfl (by kernel_rfl) Try.func4 (by kernel_rfl)
    (of_decide_eq_true (by kernel_rfl)) (by unfold Func.isWrapper; first | (rw [if_pos (by decide +kernel)]; kernel_rfl) | (rw [if_neg (by decide +kernel)]; exact ⟨rfl, rfl⟩))
    (fun os started H enc _ => lifted os started H enc)

/-- ████ THE STATEMENT ████ -/
theorem proved : Rows.YardLossesSaid := over
#print axioms proved
end Go.Proofs.Ytimdaceidhdaeaa.yardLosses
