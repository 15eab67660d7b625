/- The document's Write. -/
import Derived.Test.YticlnjfndjnfhaaDoorHeadP
namespace Go.Proofs.YticlnjfndjnfhaaDoor.bake
open Go Go.RowKit Go.Proofs.YticlnjfndjnfhaaDoor.base Go.Proofs.YticlnjfndjnfhaaDoor.dec Go.Proofs.YticlnjfndjnfhaaDoor.err Go.Proofs.YticlnjfndjnfhaaDoor.rowe
open Go.Lib (decDigits)

def RefH (w : World) (cs : Array Value) (B : Nat) (l : List UInt8) (s : Value) (wx : World) : Prop :=
  s = .string (mkB l) ∧ l.length ≤ B ∧ Blk wx w.heap.size 35 cs ∧ Below w.heap.size w wx
theorem str_h0 (n v : ByteArray) : n ++ ⟨#[61]⟩ ++ v = mkB (h0 n v) := bytes_eq (by simp [mkB_data, h0, ByteArray.data_append])
theorem h0_len (n v : ByteArray) : (h0 n v).length = n.size + 1 + v.size := by unfold h0; rw [List.length_append, List.length_append]; rfl
theorem cat_lit (l k : List UInt8) : mkB l ++ ⟨k.toArray⟩ = mkB (l ++ k) := mk_app l k
theorem cat_str (l : List UInt8) (p : ByteArray) : mkB l ++ p = mkB (l ++ p.data.toList) := by conv => { lhs; rw [← mkB_of p, mk_app] }
set_option maxRecDepth 10000 in
set_option maxHeartbeats 3200000 in
theorem write_ref (n v p : ByteArray) (a : Int) (sec http : Bool) (st : Int) (w : World) (hn : n.size ≤ 1000000) (hv : v.size ≤ 1000000) (hp : p.size ≤ 1000000) (ha : a ≤ 1099511627776) (hs0 : 0 ≤ st) (hs3 : st ≤ 3) :
    Calls Tryd.prog 11 #[.agg #[.string n, .string v, .string p, .int .i64 a, .bool sec, .bool http, .int .i64 st]] w fun e w' => e = .returned (.string (mkB (headL n v p a sec http st))) ∧ Below w.heap.size w w' := by
  have HAL := Lib.hid (age_len ha)
  go_enter Tryd.func11, Tryd.ntmps11
  obtain ⟨CS, hCS⟩ : ∃ CS : Array Value, #[.string n, .string v, .string p, .int .i64 a, .bool sec, .bool http, .int .i64 st] = CS := ⟨_, rfl⟩
  have HCS := Lib.hid hCS
  clear hCS
  go_upto_if 13 with fail
  go_cut [3] (fun s3 wx => RefH w CS 3000010 (h0 n v ++ tailL (pP p)) s3 wx)
  case first =>
    by_cases g : p.size = 0
    · have HX := Lib.hid (show pP p = [] from if_pos g)
      go_wp2_with fail
      go_meet
      case rel => exact ⟨by rw [HX.out, str_h0]; simp [tailL, Lib.joinTail], by rw [HX.out]; simp [tailL, Lib.joinTail, h0_len]; omega, by rw [← HCS.out]; exact Blk.new w _ _, below_new w _⟩
    · have hpos : 0 < p.size := by omega
      have HX := Lib.hid (show pP p = [pathH ++ p.data.toList] from if_neg g)
      clear g
      go_wp2_with fail
      go_meet
      case rel => exact ⟨by rw [HX.out, str_h0, tail_one, cat_lit, cat_str]; simp [pathH], by rw [HX.out, tail_one]; simp [h0_len, pathH]; omega, by rw [← HCS.out]; exact Blk.new w _ _, below_new w _⟩
  case rest =>
    obtain ⟨rfl, hl, hb, hbw⟩ := hcut
    rw [← HCS.out] at hb
    have j0 := hb.cell 0
    have j1 := hb.cell 1
    have j2 := hb.cell 2
    have j3 := hb.cell 3
    have j4 := hb.cell 4
    have j5 := hb.cell 5
    have j6 := hb.cell 6
    simp at j0 j1 j2 j3 j4 j5 j6
    rw [HCS.out] at hb
    have HB := Lib.hid hb
    have HBW := Lib.hid hbw
    clear hb hbw
    obtain ⟨l1, hl1⟩ : ∃ l1, h0 n v ++ tailL (pP p) = l1 := ⟨_, rfl⟩
    have HL1 := Lib.hid hl1
    rw [hl1] at hl ⊢
    clear hl1
    have hsl : (mkB l1).size ≤ 3000010 := by rw [mkB_size]; exact hl
    go_upto_if 21 with fail
    go_cut [3] (fun s3 wx => RefH w CS 3000040 (l1 ++ tailL (pA a)) s3 wx)
    case first =>
      by_cases g : 0 ≤ a
      · have d1 : decide ((0 : Int) ≤ a) = true := decide_eq_true g
        have HX := Lib.hid (show pA a = [ageH ++ decDigits a.toNat] from if_pos g)
        obtain ⟨m, rfl⟩ : ∃ m : Nat, a = m := ⟨a.toNat, by omega⟩
        have hds : (mkB (decDigits m)).size ≤ 19 := by rw [mkB_size]; exact HAL.out
        clear g
        go_wp2_with fail
        refine (digits_ref m _ (by omega)).mono ?_
        rintro e w5 ⟨rfl, hb5⟩
        have HB5 := Lib.hid (HB.out.below hb5 HB.out.lt)
        have HBW5 := Lib.hid (HBW.out.trans (hb5.mono HBW.out.size))
        clear hb5
        go_wp2_with fail
        go_meet
        case rel => exact ⟨by rw [HX.out, tail_one, cat_lit, cat_str, mkB_data]; simp [ageH], by have := HAL.out; rw [HX.out, tail_one]; simp [ageH] at this ⊢; omega, HB5.out, HBW5.out⟩
      · have hneg : a < 0 := by omega
        have HX := Lib.hid (show pA a = [] from if_neg g)
        clear g
        go_wp2_with fail
        go_meet
        case rel => exact ⟨by rw [HX.out]; simp [tailL, Lib.joinTail], by rw [HX.out]; simp [tailL, Lib.joinTail]; omega, HB.out, HBW.out⟩
    case rest =>
      clear j0 j1 j2 j3 j4 j5 j6 HB HBW hl hsl
      obtain ⟨rfl, hl, hb, hbw⟩ := hcut
      rw [← HCS.out] at hb
      have j0 := hb.cell 0
      have j1 := hb.cell 1
      have j2 := hb.cell 2
      have j3 := hb.cell 3
      have j4 := hb.cell 4
      have j5 := hb.cell 5
      have j6 := hb.cell 6
      simp at j0 j1 j2 j3 j4 j5 j6
      rw [HCS.out] at hb
      have HB := Lib.hid hb
      have HBW := Lib.hid hbw
      clear hb hbw
      obtain ⟨l2, hl2⟩ : ∃ l2, l1 ++ tailL (pA a) = l2 := ⟨_, rfl⟩
      have HL2 := Lib.hid hl2
      rw [hl2] at hl ⊢
      clear hl2
      have hsl : (mkB l2).size ≤ 3000040 := by rw [mkB_size]; exact hl
      go_upto_if 29 with fail
      go_cut [3] (fun s3 wx => RefH w CS 3000050 (l2 ++ tailL (pS sec)) s3 wx)
      case first =>
        cases sec
        · have HX := Lib.hid (show pS false = [] from rfl)
          go_wp2_with fail
          go_meet
          case rel => exact ⟨by rw [HX.out]; simp [tailL, Lib.joinTail], by rw [HX.out]; simp [tailL, Lib.joinTail]; omega, HB.out, HBW.out⟩
        · have HX := Lib.hid (show pS true = [secH] from rfl)
          go_wp2_with fail
          go_meet
          case rel => exact ⟨by rw [HX.out, tail_one, cat_lit]; simp [secH], by rw [HX.out, tail_one]; simp [secH]; omega, HB.out, HBW.out⟩
      case rest =>
        clear j0 j1 j2 j3 j4 j5 j6 HB HBW hl hsl
        obtain ⟨rfl, hl, hb, hbw⟩ := hcut
        rw [← HCS.out] at hb
        have j0 := hb.cell 0
        have j1 := hb.cell 1
        have j2 := hb.cell 2
        have j3 := hb.cell 3
        have j4 := hb.cell 4
        have j5 := hb.cell 5
        have j6 := hb.cell 6
        simp at j0 j1 j2 j3 j4 j5 j6
        rw [HCS.out] at hb
        have HB := Lib.hid hb
        have HBW := Lib.hid hbw
        clear hb hbw
        obtain ⟨l3, hl3⟩ : ∃ l3, l2 ++ tailL (pS sec) = l3 := ⟨_, rfl⟩
        have HL3 := Lib.hid hl3
        rw [hl3] at hl ⊢
        clear hl3
        have hsl : (mkB l3).size ≤ 3000050 := by rw [mkB_size]; exact hl
        go_upto_if 33 with fail
        go_cut [3] (fun s3 wx => RefH w CS 3000070 (l3 ++ tailL (pH http)) s3 wx)
        case first =>
          cases http
          · have HX := Lib.hid (show pH false = [] from rfl)
            go_wp2_with fail
            go_meet
            case rel => exact ⟨by rw [HX.out]; simp [tailL, Lib.joinTail], by rw [HX.out]; simp [tailL, Lib.joinTail]; omega, HB.out, HBW.out⟩
          · have HX := Lib.hid (show pH true = [httpH] from rfl)
            go_wp2_with fail
            go_meet
            case rel => exact ⟨by rw [HX.out, tail_one, cat_lit]; simp [httpH], by rw [HX.out, tail_one]; simp [httpH]; omega, HB.out, HBW.out⟩
        case rest =>
          clear j0 j1 j2 j3 j4 j5 j6 HB HBW hl hsl
          obtain ⟨rfl, hl, hb, hbw⟩ := hcut
          rw [← HCS.out] at hb
          have j0 := hb.cell 0
          have j1 := hb.cell 1
          have j2 := hb.cell 2
          have j3 := hb.cell 3
          have j4 := hb.cell 4
          have j5 := hb.cell 5
          have j6 := hb.cell 6
          simp at j0 j1 j2 j3 j4 j5 j6
          rw [HCS.out] at hb
          have HB := Lib.hid hb
          have HBW := Lib.hid hbw
          clear hb hbw
          obtain ⟨l4, hl4⟩ : ∃ l4, l3 ++ tailL (pH http) = l4 := ⟨_, rfl⟩
          have HL4 := Lib.hid hl4
          rw [hl4] at hl ⊢
          clear hl4
          have hsl : (mkB l4).size ≤ 3000070 := by rw [mkB_size]; exact hl
          have HF := Lib.hid (show headL n v p a sec http st = l4 ++ tailL (pT st) from by unfold headL; rw [← HL4.out, ← HL3.out, ← HL2.out, ← HL1.out]; simp only [tail_app, List.append_assoc])
          have h4 : st = 0 ∨ st = 1 ∨ st = 2 ∨ st = 3 := by omega
          rcases h4 with rfl | rfl | rfl | rfl
          all_goals
            go_wp2_with fail
            go_ret
            refine ⟨?_, HBW.out⟩
            rw [HF.out]
            first | (rw [cat_lit]; rfl) | (simp [pT, tailL, Lib.joinTail]; done)
end Go.Proofs.YticlnjfndjnfhaaDoor.bake
