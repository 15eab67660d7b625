/- The walk of the law DepPlays: it returns true; nothing that was there is written. -/
import Derived.Test.YtedkcpncomgboaaPlayD
import Derived.Deep.DeepCutAuto
import Derived.Deep.Cut
import Derived.Deep.CutBlock
namespace Go.Proofs.Ytedkcpncomgboaa.wDepPlays
open Go Go.RowKit Go.Proofs.Ytedkcpncomgboaa.base Go.Proofs.Ytedkcpncomgboaa.rowe Go.Proofs.Ytedkcpncomgboaa.err Go.Proofs.Ytedkcpncomgboaa.wire Go.Proofs.Ytedkcpncomgboaa.vec Go.Proofs.Ytedkcpncomgboaa.cmp Go.Proofs.Ytedkcpncomgboaa.with_ Go.Proofs.Ytedkcpncomgboaa.dep Go.Proofs.Ytedkcpncomgboaa.monoj

/-- where the switch's ways meet -/
def CutR (w : World) (gr : Nat) (rg : Int) (n : Nat) (s7 s13 s14 s15 s16 : Value) (wx : World) : Prop :=
  ∃ (g1 : Nat) (c : Int), s7 = .pointer (some ⟨g1, 0, none⟩) ∧ s16 = .int .i64 c ∧ PlI w g1 gr rg n wx ∧ (∃ L1 L2, RW wx s13 L1 ∧ RW wx s14 L2 ∧ L1.map Wr.abs = L2.map Wr.abs) ∧ EO wx s15 c
theorem CutR.none_ {w wx : World} {g1 gr : Nat} {rg : Int} {n : Nat} (h : PlI w g1 gr rg n wx) : CutR w gr rg n (.pointer (some ⟨g1, 0, none⟩)) (.slice none 0 0) (.slice none 0 0) .nilIface (.int .i64 0) wx :=
  ⟨g1, 0, rfl, rfl, h, ⟨[], [], RW.none_ _, RW.none_ _, rfl⟩, EO.nil _⟩
theorem CutR.bad {w wx : World} {g1 gr : Nat} {rg : Int} {n : Nat} {ge : Nat} {c : Int} (h : PlI w g1 gr rg n wx) (hc : c ≠ 0) (he : Err wx (.iface 96 (.pointer (some ⟨ge, 0, none⟩))) c) : CutR w gr rg n (.pointer (some ⟨g1, 0, none⟩)) (.slice none 0 0) (.slice none 0 0) (.iface 96 (.pointer (some ⟨ge, 0, none⟩))) (.int .i64 c) wx :=
  ⟨g1, c, rfl, rfl, h, ⟨[], [], RW.none_ _, RW.none_ _, rfl⟩, .inr ⟨hc, he, by simp⟩⟩
theorem CutR.good {w wx : World} {g1 gr : Nat} {rg : Int} {n : Nat} {v1 v2 : Value} (h : PlI w g1 gr rg n wx) (hl : ∃ L1 L2, RW wx v1 L1 ∧ RW wx v2 L2 ∧ L1.map Wr.abs = L2.map Wr.abs) : CutR w gr rg n (.pointer (some ⟨g1, 0, none⟩)) v1 v2 .nilIface (.int .i64 0) wx :=
  ⟨g1, 0, rfl, rfl, h, hl, EO.nil _⟩
theorem offer_far {S : Nat → Prop} {g : Nat} {rg : Int} {ap : List Int} {L : List Wr} {x : Wr} {w w' : World} {e : Ending} (h : OfferR S g rg ap L x w e w') : ∃ v, e = .returned v ∧ Keeps S w w' := by
  obtain ⟨q, _, ⟨_, ge, rfl, _, hb, _⟩ | ⟨_, d', vo, a, l, out, S1, rfl, hdr, _⟩⟩ := h
  · exact ⟨_, rfl, .of_below hb⟩
  · exact ⟨_, rfl, hdr.2.2.2.2.2.1⟩
theorem own_far {S : Nat → Prop} {g : Nat} {rg : Int} {ap dz : List Int} {L : List Wr} {w w' : World} {e : Ending} (h : OwnR S g rg ap L dz w e w') : ∃ v, e = .returned v ∧ Keeps S w w' := by
  rcases h with ⟨_, ge, rfl, _, hb, _⟩ | ⟨_, _, ge, rfl, _, hb, _⟩ | ⟨_, _, vo, a, l, out, S1, rfl, hdr, _⟩
  · exact ⟨_, rfl, .of_below hb⟩
  · exact ⟨_, rfl, .of_below hb⟩
  · exact ⟨_, rfl, hdr.2.2.2.2.2.1⟩
theorem vec_at {w wx : World} {A : Option Addr} {n c : Nat} {zs : List Int} (h : Vec w w.heap.size A n c zs) (hb : Below w.heap.size w wx) : Vec wx wx.heap.size A n c zs := (h.below hb).more hb.size
theorem box_at {w : World} {g : Nat} {t : TypeId} {o : Opd} (h : Blk w g t o.cells.toArray) {q : Nat} {v : Value} (hq : o.x.cells[q]? = some v) : w.cell? ⟨g, 1 + q, none⟩ = some v := by
  rw [h.cell (1 + q), Nat.add_comm]
  have h1 : o.cells[q + 1]? = some v := by
    show (o.x.cells ++ [o.v])[q]? = some v
    rw [List.getElem?_append_left (List.getElem?_eq_some_iff.1 hq).1]
    exact hq
  simpa using h1
theorem box_v {w : World} {g : Nat} {t : TypeId} {o : Opd} (h : Blk w g t o.cells.toArray) {v : Value} (hv : o.v = v) : w.cell? ⟨g, 11, none⟩ = some v := by
  rw [h.cell 11, ← hv]
  rfl
set_option maxRecDepth 100000 in
set_option maxHeartbeats 16000000 in
theorem walk (v0 v1 v2 : Value) (w : World) (a0 : Arg Try.prog w 3 v0) (a1 : Arg Try.prog w 26 v1) (a2 : Arg Try.prog w 49 v2) :
    Calls Try.prog 5 #[v0, v1, v2] w fun e w' => e = .returned (.bool true) ∧ Below w.heap.size w w' := by
  obtain ⟨rg, rfl, _⟩ := a0.int Try.underlying3
  have hap1 : ∃ zs, VecOk w v1 zs := by
    rcases a1.slice Try.underlying26 with rfl | ⟨a, len, cap, rfl, _⟩
    · exact vec_sees Try.underlying26 a1.2
    · exact vec_sees Try.underlying26 a1.2
  obtain ⟨ap, A, n, c, rfl, hva⟩ := hap1
  obtain ⟨ops, hL⟩ := ops_arg a2
  have HL0 := Lib.hid hL
  have HVA := Lib.hid hva
  have hn47 : n ≤ maxLen := Nat.le_trans hva.2.1 hva.2.2.1
  unfold maxLen at hn47
  clear a0 a1 a2 hL hva
  by_cases h100 : 100 < n
  · have d100 : decide ((100 : Int) < (n : Int)) = true := by simp; omega
    go_enter Try.func5, Try.ntmps5
    go_wp2_with fail
    refine (awake_any _).mono ?_
    rintro e w1 ⟨rfl, hb1⟩
    have HB1 := Lib.hid hb1
    clear hb1
    go_wp2_with fail
    go_ret
    exact ⟨rfl, HB1.out⟩
  have d100 : decide ((100 : Int) < (n : Int)) = false := by simp; omega
  go_enter Try.func5, Try.ntmps5
  go_wp2_with fail
  refine (awake_any _).mono ?_
  rintro e w1 ⟨rfl, hb1⟩
  have HB1 := Lib.hid hb1
  clear hb1
  go_wp2_with fail
  refine (great_any v2 ops w1 (HL0.out.below HB1.out)).mono ?_
  rintro e w3 ⟨rfl, hb3⟩
  have HB3 := Lib.hid (below_step HB1.out hb3)
  clear hb3 HB1
  cases hg : greatO ops with
  | true =>
    go_wp2_with fail
    go_ret
    exact ⟨rfl, HB3.out⟩
  | false =>
  obtain ⟨AO, cO, rfl, _, hcO, hrO, hoO⟩ := HL0.out
  have hg1 : ops.length ≤ 100 ∧ ∀ o ∈ ops, o.x.z.length ≤ 100 ∧ o.vz.length ≤ 100 := by
    unfold greatO at hg
    simp only [Bool.or_eq_false_iff, decide_eq_false_iff_not, List.any_eq_false, Bool.not_eq_true] at hg
    refine ⟨by omega, fun o ho => ?_⟩
    have := hg.2 o ho
    unfold bigO at this
    simp only [Bool.or_eq_false_iff, decide_eq_false_iff_not] at this
    omega
  obtain ⟨hL100, hoz⟩ := hg1
  have HRO := Lib.hid hrO
  have HOO := Lib.hid hoO
  have HOZ := Lib.hid hoz
  clear hrO hoO hoz hg HL0
  obtain ⟨m, hm⟩ : ∃ m, ops.length = m := ⟨_, rfl⟩
  rw [hm] at HRO hcO hL100 ⊢
  have Hm := Lib.hid hm
  clear hm
  go_wp2_with fail
  refine (new_any rg A n c ap w3 ((HVA.out.below HB3.out).more HB3.out.size) (by omega)).mono ?_
  rintro e w4 h4
  rcases h4 with ⟨hnb, g, S, va, rfl, hf4, hS4, hb4⟩ | ⟨hnb, v4, rfl, he4, _, hb4⟩
  rotate_left
  · obtain ⟨ge, rfl⟩ := he4.form
    have HE4 := Lib.hid he4
    have HB4 := Lib.hid (below_step HB3.out hb4)
    have HNB := Lib.hid hnb
    clear hb4 he4 hnb
    go_wp2_with fail
    refine (new_ref rg A n c ap w4 ((HVA.out.below HB4.out).more HB4.out.size) (by omega)).mono ?_
    rintro e w5 h5
    rcases h5 with ⟨hnb5, _⟩ | ⟨_, rfl, hb5⟩
    · rw [HNB.out] at hnb5; cases hnb5
    have HE5 := Lib.hid (HE4.out.below hb5)
    have HB5 := Lib.hid (below_step HB4.out hb5)
    clear hb5
    go_wp2_with fail
    refine (is_err _ 1 1 w5 HE5.out).mono ?_
    rintro e w6 ⟨rfl, hw6⟩
    subst w6
    go_wp2_with fail
    go_ret
    exact ⟨rfl, HB5.out⟩
  have hrg : 1 ≤ rg ∧ rg ≤ 16 := by
    simp [headB] at hnb
    omega
  have HF4 := Lib.hid hf4
  have HS4 := Lib.hid hS4
  have HB4 := Lib.hid (below_step HB3.out hb4)
  have HNB := Lib.hid hnb
  clear hb4 hf4 hS4 hnb
  go_wp2_with fail
  refine (new_ref rg A n c ap w4 ((HVA.out.below HB4.out).more HB4.out.size) (by omega)).mono ?_
  rintro e w5 h5
  rcases h5 with ⟨hnb5, gr, R, ra, rfl, hr5, hR5, hb5⟩ | ⟨hnb5, _⟩
  rotate_left
  · rw [HNB.out] at hnb5; cases hnb5
  have htr : trimL ap = ap := by
    have := hnb5
    rw [head_tr] at this
    simp only [Bool.or_eq_false_iff, Bool.not_eq_false'] at this
    exact (tr_parts this.2).2.1
  have HPI := Lib.hid (show PlI w g gr rg 0 w5 from ⟨S, R, ap, [], [], va, _, ra, _, ⟨HF4.out.below hb5, hr5, fun i hi hr => by have := HF4.out.small i hi; have := hR5 i hr; omega, fun i hi => Nat.le_trans HB3.out.size (HS4.out i hi), fun i hi => Nat.le_trans HB4.out.size (hR5 i hi), below_step HB4.out hb5, List.Pairwise.nil, .refl _, htr⟩, by simp⟩)
  clear hr5 hR5 hb5 hnb5 htr HF4 HS4 HNB
  go_wp2_with fail
  go_loopw [7, 55] (fun s7 i wr => ∃ k g : Nat, k ≤ m ∧ i = .int .i64 k ∧ s7 = .pointer (some ⟨g, 0, none⟩) ∧ PlI w g gr rg k wr) (fun _ i _ => m - (intOf i).toNat)
  case atStart => exact ⟨0, g, by omega, rfl, rfl, HPI.out⟩
  case round =>
    clear HPI
    obtain ⟨k, g, hkm, rfl, rfl, hpi⟩ := hrel
    by_cases hlt : k < m
    · obtain ⟨S, R, ap, ws, L, va, vw, ra, rl, hpl, hwn⟩ := hpi
      have hbel := hpl.bel
      obtain ⟨b, off, rfl, hbb, he⟩ := op_at (HRO.out.below hbel) Hm.out hlt
      have HE := Lib.hid he
      have hkl : k < ops.length := by rw [Hm.out]; exact hlt
      have hgd : ops.getD k opZ = ops[k] := by rw [List.getD_eq_getElem?_getD, List.getElem?_eq_getElem hkl]; rfl
      have hok : OpOk w (ops.getD k opZ) := by rw [hgd]; exact HOO.out _ (List.getElem_mem hkl)
      have hoz : (ops.getD k opZ).x.z.length ≤ 100 ∧ (ops.getD k opZ).vz.length ≤ 100 := by rw [hgd]; exact HOZ.out _ (List.getElem_mem hkl)
      generalize ops.getD k opZ = o at *
      have hall := hok.all
      have HOK := Lib.hid hok
      have HPL := Lib.hid hpl
      have HBEL := Lib.hid hbel
      have hsr := hbel.size
      clear hpl hbel he hgd hok
      have HSM := Lib.hid (show ∀ i, S i → i < wr.heap.size from HPL.out.inf.small)
      have HRM := Lib.hid (show ∀ i, R i → i < wr.heap.size from HPL.out.rin.small)
      go_upto_block 2 with (first | ((with_reducible refine wpList_load_at ?_ 52 (.tmp 57) ?_ b (off + k * 12) o.cells ?_ Try.underlying52 ?_ ?_ HE.out ?_); rfl; rfl; rfl; rfl; (rw [Opd.len]; kernel_rfl)) | ((with_reducible refine wpList_store_blk ?_ 52 (.tmp 12) (.tmp 58) ?_ wr.heap.size o.cells ?_ ?_ (Blk.new wr 52 #[.int .i64 0, .int .i64 0, .int .i64 0, .int .i64 0, .int .i64 0, .slice none 0 0, .string ⟨#[]⟩, .string ⟨#[]⟩, .string ⟨#[]⟩, .bool false, .int .i64 0, .slice none 0 0]) ?_ ?_ hall ?_); rfl; rfl; rfl; rfl; (rw [Opd.len]; kernel_rfl); rfl; intro w9 ho9 hk9 hs9; clear hs9; have HB9 := Lib.hid ((below_new wr _).trans (hk9.below (fun i hi e => absurd hi (by rw [show i = wr.heap.size from e]; omega)) (by simp))); have e0 : w9.cell? ⟨wr.heap.size, 0, none⟩ = some (.int .i64 o.k) := ho9.cell 0; have el9 := ho9.lt; have HX9 := Lib.hid ho9; clear hk9 ho9))
      have HP9 := Lib.hid (HPL.out.below HB9.out)
      have hs9 := HB9.out.size
      clear HE HPL
      go_cut [7, 13, 14, 15, 16] (fun s7 s13 s14 s15 s16 wx => CutR w gr rg (k + 1) s7 s13 s14 s15 s16 wx)
      case first =>
        have hap0 := HP9.out.rin.apb rg
        cases hk1 : o.k == 1 with
        | true =>
          obtain ⟨A2, n2, c2, hd2, hv2⟩ := HOK.out.2
          have e11 : w9.cell? ⟨wr.heap.size, 11, none⟩ = some (.slice A2 n2 c2) := box_v HX9.out hd2
          have HV2 := Lib.hid hv2
          have hn2 : n2 ≤ 1000000 := by have := hv2.1; omega
          clear hd2 hv2
          go_wp2_with fail
          refine (own_any g rg S ap ws va vw A2 n2 c2 o.vz w9 HP9.out.inf (vec_at HV2.out HP9.out.bel) hn2 hrg hap0.1).mono ?_
          rintro e W1 hown
          rcases hown with ⟨hc1, ge, rfl, hge, hb1, _⟩ | ⟨hc1, hmx, ge, rfl, hge, hb1, _⟩ | ⟨hc1, hmx, vo, a, l, out, S1, rfl, hdr, hno⟩
          · have HPW := Lib.hid (HP9.out.below hb1)
            have HGE := Lib.hid hge
            have HC1 := Lib.hid hc1
            have x11 : W1.cell? ⟨wr.heap.size, 11, none⟩ = some (.slice A2 n2 c2) := (hb1.cell (p := ⟨wr.heap.size, 11, none⟩) el9).trans e11
            have xl1 : wr.heap.size < W1.heap.size := Nat.lt_of_lt_of_le el9 hb1.size
            clear hc1 hge hb1
            go_wp2_with fail
            refine (own_ref gr rg R ap L ra rl A2 n2 c2 o.vz W1 HPW.out.rin (vec_at HV2.out HPW.out.bel) hn2 hrg).mono ?_
            rintro e W2 hq
            rcases hq with ⟨_, rfl, hb2⟩ | ⟨h, _⟩ | ⟨h, _⟩
            · have HCR := Lib.hid (CutR.bad (w := w) (gr := gr) (rg := rg) (n := k + 1) (g1 := g) (c := 15) ⟨S, R, ap, ws, L, va, vw, ra, rl, HPW.out.below hb2, by omega⟩ (by decide) (HGE.out.below hb2))
              clear hb2
              go_wp2_with fail
              go_meet
              case rel => exact HCR.out
            · rw [HC1.out] at h; cases h
            · rw [HC1.out] at h; cases h
          · have HPW := Lib.hid (HP9.out.below hb1)
            have HGE := Lib.hid hge
            have HC1 := Lib.hid hc1
            have x11 : W1.cell? ⟨wr.heap.size, 11, none⟩ = some (.slice A2 n2 c2) := (hb1.cell (p := ⟨wr.heap.size, 11, none⟩) el9).trans e11
            have xl1 : wr.heap.size < W1.heap.size := Nat.lt_of_lt_of_le el9 hb1.size
            clear hc1 hge hb1
            go_wp2_with fail
            refine (own_ref gr rg R ap L ra rl A2 n2 c2 o.vz W1 HPW.out.rin (vec_at HV2.out HPW.out.bel) hn2 hrg).mono ?_
            rintro e W2 hq
            rcases hq with ⟨h, _⟩ | ⟨_, _, rfl, hb2⟩ | ⟨_, h, _⟩
            · rw [HC1.out] at h; cases h
            · have HCR := Lib.hid (CutR.bad (w := w) (gr := gr) (rg := rg) (n := k + 1) (g1 := g) (c := 3) ⟨S, R, ap, ws, L, va, vw, ra, rl, HPW.out.below hb2, by omega⟩ (by decide) (HGE.out.below hb2))
              clear hb2
              go_wp2_with fail
              go_meet
              case rel => exact HCR.out
            · omega
          · obtain ⟨hrin, hbw⟩ := HP9.out.rin1 hdr
            have hkS := hdr.2.2.2.2.2.1
            have x11 : W1.cell? ⟨wr.heap.size, 11, none⟩ = some (.slice A2 n2 c2) := (hkS.cell 11 el9 (fun h => by have := HSM.out _ h; omega)).trans e11
            have xl1 : wr.heap.size < W1.heap.size := Nat.lt_of_lt_of_le el9 hkS.size
            have HRIN := Lib.hid hrin
            have HBW := Lib.hid hbw
            have HC1 := Lib.hid hc1
            have HDR := Lib.hid hdr
            have HNO := Lib.hid hno
            obtain ⟨Ao, co, rfl⟩ := ownsRow_slice hdr.2.2.1
            clear hrin hbw hc1 hdr hno hkS
            go_wp2_with fail
            refine (own_ref gr rg R ap L ra rl A2 n2 c2 o.vz W1 HRIN.out (vec_at HV2.out HBW.out) hn2 hrg).mono ?_
            rintro e W2 hq
            rcases hq with ⟨h, _⟩ | ⟨_, h, _⟩ | ⟨_, _, vo2, a2, l2, out2, R2, rfl, hdq, hno2⟩
            · rw [HC1.out] at h; cases h
            · omega
            · obtain ⟨hpn, hls⟩ := HP9.out.next HP9.out.srt HP9.out.prm (trim_with _ _ _) (by omega) HDR.out HNO.out hdq hno2
              obtain ⟨Ao2, co2, rfl⟩ := ownsRow_slice hdq.2.2.1
              have HCR := Lib.hid (CutR.good (hpn.more (n' := k + 1) (by omega)) hls)
              clear hpn hls hdq hno2
              go_wp2_with fail
              go_meet
              case rel => exact HCR.out
        | false =>
        cases hk2 : o.k == 2 with
        | true =>
          go_wp2_with fail
          refine (copy_any g rg S ap ws va vw w9 HP9.out.inf).mono ?_
          rintro e W1 hc
          obtain ⟨g1, rfl, hpn, _, _⟩ := HP9.out.copied hc
          have HCR := Lib.hid (CutR.none_ (hpn.more (n' := k + 1) (by omega)))
          clear hpn hc
          go_wp2_with fail
          go_meet
          case rel => exact HCR.out
        | false =>
        obtain ⟨A2, n2, c2, hd2, hv2⟩ := HOK.out.1
        have HD2 := Lib.hid hd2
        have HV2 := Lib.hid hv2
        have hn2 : n2 ≤ 1000000 := by have := hv2.1; omega
        have hone : o.x.d.oneCell' = true := by rw [hd2]; rfl
        have HEw := Lib.hid (show ∀ q v, o.x.cells[q]? = some v → w9.cell? ⟨wr.heap.size, 1 + q, none⟩ = some v from fun q v hq => box_at HX9.out hq)
        clear hd2 hv2
        cases hk3 : o.k == 3 with
        | true =>
          go_wp2_with fail
          have HP9d := Lib.hid (HP9.out.below (Below.refl _ w9).drew)
          refine wp_region_mono (fun i => w9.heap.size ≤ i) (by kernel_rfl) ?_
          -- 0 Op.move (Operand.tmp 7)
          refine wpMono_take' 0 (v := ?_) rfl (by kernel_rfl) (by kernel_rfl) (by kernel_rfl) (fun _ _ _ h => h) (by rfl) ?_ ?_
          rotate_left
          · (intro W hSw; skip
             go_simp; first | done | rfl)
          try simp only [Act.put, List.setIfInBounds_toArray, List.set_cons_zero, List.set_cons_succ]
          -- 2 Op.fieldAddr 52 (Operand.tmp 12) 1
          refine wpMono_take' 2 (v := ?_) rfl (by kernel_rfl) (by kernel_rfl) (by kernel_rfl) (fun _ _ _ h => h) (by rfl) ?_ ?_
          rotate_left
          · (intro W hSw; skip
             go_simp; first | done | rfl)
          try simp only [Act.put, List.setIfInBounds_toArray, List.set_cons_zero, List.set_cons_succ]
          -- 3 Op.load 35 (Operand.tmp 99)
          refine wpMono_take' 3 (v := ?_) rfl (by kernel_rfl) (by kernel_rfl) (by kernel_rfl) (fun _ _ _ h => h) (by rfl) ?_ ?_
          rotate_left
          · (intro W hSw; first | ((refine exec_load 35 (.tmp 99) ?_ wr.heap.size 1 o.x.cells ?_ Try.underlying35 rfl (by rw [Wr.len]; kernel_rfl) (fun q v hq => (hSw.cell (1 + q) el9 (by omega)).trans (HEw.out q v hq)) <;> rfl)) | (skip; go_simp; done) | (skip; go_simp; rfl))
          try simp only [Act.put, List.setIfInBounds_toArray, List.set_cons_zero, List.set_cons_succ]
          -- EFFECT 1 Op.call { callee := Callee.value (Operand.func 24), args := #[Operand.tmp 97], argTypes := #[38] }
          refine wpMono_one' 1 (by kernel_rfl) rfl (by rfl) (fun K hK => ?_)
          go_simp
          refine (copy_any g rg S ap ws va vw w9.drew HP9d.out.inf).mono ?_
          rintro e w10 hc
          obtain ⟨g1, rfl, _, hb10, S1, ws1, va1, vw1, hf1, hS1, hso1, hll1⟩ := HP9d.out.copied hc
          have HF1 := Lib.hid hf1
          have HS1 := Lib.hid hS1
          have HSO1 := Lib.hid hso1
          have HB10 := Lib.hid hb10
          clear hc hf1 hS1 hso1 hb10
          refine hK.out _ _ ?_ ?_
          · exact .of_below HB10.out
          clear hK K
          try simp only [Act.put, List.setIfInBounds_toArray, List.set_cons_zero, List.set_cons_succ]
          -- EFFECT 4 Op.call { callee := Callee.value (Operand.func 14), args := #[Operand.tmp 98, Operand.tmp 100], argTypes := #[38, 35] }
          refine wpMono_one' 4 (by kernel_rfl) rfl (by rfl) (fun K hK => ?_)
          go_simp
          refine (offer_any g1 rg S1 ap ws1 va1 vw1 o.x A2 n2 c2 w10 HF1.out HD2.out (vec_at HV2.out (below_step HP9d.out.bel HB10.out)) hn2 (HSO1.out.part _) (by omega)).mono ?_
          rintro e w11 hoff
          obtain ⟨vv, rfl, hk11⟩ := offer_far hoff
          have HK11 := Lib.hid hk11
          clear hoff hk11
          refine hK.out _ _ ?_ ?_
          · exact HK11.out.more fun i _ hi => HS1.out i hi
          clear hK K
          try simp only [Act.put, List.setIfInBounds_toArray, List.set_cons_zero, List.set_cons_succ]
          refine wpMono_done (by kernel_rfl) ?_ _
          have hb11 : Below w9.heap.size w9 w11 := below_keeps (B := w9.heap.size) (below_ofDrew HB10.out) (Nat.le_refl _) HK11.out (fun i hi e => by have h : w9.heap.size ≤ i := HS1.out i e; omega)
          have HP11 := Lib.hid (HP9.out.below hb11)
          clear hb11
          go_wp2_with fail
          refine (copy_any g rg S ap ws va vw w11 HP11.out.inf).mono ?_
          rintro e w12 hc
          obtain ⟨g2, rfl, _, hb12, S2, ws2, va2, vw2, hf2, hS2, hso2, hll2⟩ := HP11.out.copied hc
          have HF2 := Lib.hid hf2
          have HS2 := Lib.hid hS2
          have HB12 := Lib.hid hb12
          clear hc hf2 hS2 hso2 hb12
          go_wp2_with fail
          refine (own_any g2 rg S2 ap ws2 va2 vw2 none 0 0 [] w12 HF2.out (vec_nil _ _) (by omega) hrg hap0.1).mono ?_
          rintro e w13 hown
          obtain ⟨vv2, rfl, hk13⟩ := own_far hown
          have hb13 : Below w11.heap.size w11 w13 := below_keeps HB12.out (Nat.le_refl _) hk13 (fun i hi e => by have h : w11.heap.size ≤ i := HS2.out i e; omega)
          have HCR := Lib.hid (CutR.none_ (w := w) (gr := gr) (rg := rg) (n := k + 1) (g1 := g) ⟨S, R, ap, ws, L, va, vw, ra, rl, HP11.out.below hb13, by omega⟩)
          clear hown hk13 hb13
          go_wp2_with fail
          go_meet
          case rel => exact HCR.out
        | false =>
          go_wp2_with (first | ((with_reducible refine wpList_load_at ?_ 35 (.tmp 63) ?_ wr.heap.size 1 o.x.cells ?_ Try.underlying35 ?_ ?_ HEw.out ?_); rfl; rfl; rfl; rfl; (rw [Wr.len]; kernel_rfl)))
          refine (offer_any g rg S ap ws va vw o.x A2 n2 c2 w9 HP9.out.inf HD2.out (vec_at HV2.out HP9.out.bel) hn2 (HP9.out.srt.part _) (by omega)).mono ?_
          rintro e W1 ⟨q, hq, hoff⟩
          have hsame := off_same (rg := rg) (ap := ap) HP9.out.srt HP9.out.prm hq
          have HSAME := Lib.hid hsame
          clear hsame
          rcases hoff with ⟨hc, ge, rfl, hge, hb1, _⟩ | ⟨hc0, d1, vo, a, l, out, S1, rfl, hdr, hno⟩
          · have HPW := Lib.hid (HP9.out.below hb1)
            have HGE := Lib.hid hge
            have HC := Lib.hid hc
            have HEx := Lib.hid (show ∀ q v, o.x.cells[q]? = some v → W1.cell? ⟨wr.heap.size, 1 + q, none⟩ = some v from fun q v hq => (hb1.cell (p := ⟨wr.heap.size, 1 + q, none⟩) el9).trans (HEw.out q v hq))
            have xl1 : wr.heap.size < W1.heap.size := Nat.lt_of_lt_of_le el9 hb1.size
            clear hc hge hb1 hq
            go_wp2_with (first | ((with_reducible refine wpList_load_at ?_ 35 (.tmp 70) ?_ wr.heap.size 1 o.x.cells ?_ Try.underlying35 ?_ ?_ HEx.out ?_); rfl; rfl; rfl; rfl; (rw [Wr.len]; kernel_rfl)))
            refine (offer_ref gr rg R ap L ra rl o.x A2 n2 c2 W1 HPW.out.rin HD2.out (vec_at HV2.out HPW.out.bel) hn2 (by have := HPW.out.prm.length_eq; simp at this; omega)).mono ?_
            rintro e W2 hq
            rcases hq with ⟨_, rfl, hb2⟩ | ⟨h, _⟩
            · have HCR := Lib.hid (CutR.bad (w := w) (gr := gr) (rg := rg) (n := k + 1) (g1 := g) (c := offR rg ap L o.x) ⟨S, R, ap, ws, L, va, vw, ra, rl, HPW.out.below hb2, by omega⟩ (by rw [← HSAME.out]; exact HC.out) (by rw [← HSAME.out]; exact HGE.out.below hb2))
              generalize offR rg ap L o.x = cc at *
              clear hb2
              go_wp2_with fail
              go_meet
              case rel => exact HCR.out
            · exact absurd (HSAME.out.trans h) HC.out
          · obtain ⟨hrt, hxr, hhe, _, _⟩ := offC_zero hc0
            obtain ⟨hrin, hbw⟩ := HP9.out.rin1 hdr
            have hkS := hdr.2.2.2.2.2.1
            have HEx := Lib.hid (show ∀ q v, o.x.cells[q]? = some v → W1.cell? ⟨wr.heap.size, 1 + q, none⟩ = some v from fun q v hq => (hkS.cell (1 + q) el9 (fun h => by have := HSM.out _ h; omega)).trans (HEw.out q v hq))
            have xl1 : wr.heap.size < W1.heap.size := Nat.lt_of_lt_of_le el9 hkS.size
            have hsi := HP9.out.srt.insert hq hhe ({ o.x with d := d1 } : Wr) rfl rfl
            have hll : (ws.take q ++ ({ o.x with d := d1 } : Wr) :: ws.drop q).length = ws.length + 1 := by
              have := hq.1
              simp
              omega
            have HPI2 := Lib.hid (fun d2 : Value => ins_perm (k := q) (x := ({ o.x with d := d1 } : Wr)) (y := ({ o.x with d := d2 } : Wr)) HP9.out.prm rfl)
            have HRIN := Lib.hid hrin
            have HBW := Lib.hid hbw
            have HC0 := Lib.hid hc0
            have HDR := Lib.hid hdr
            have HNO := Lib.hid hno
            have HSI := Lib.hid hsi
            obtain ⟨Ao, co, rfl⟩ := ownsRow_slice hdr.2.2.1
            clear hrin hbw hc0 hdr hno hkS hsi hq hrt hxr hhe
            go_wp2_with (first | ((with_reducible refine wpList_load_at ?_ 35 (.tmp 70) ?_ wr.heap.size 1 o.x.cells ?_ Try.underlying35 ?_ ?_ HEx.out ?_); rfl; rfl; rfl; rfl; (rw [Wr.len]; kernel_rfl)))
            refine (offer_ref gr rg R ap L ra rl o.x A2 n2 c2 W1 HRIN.out HD2.out (vec_at HV2.out HBW.out) hn2 (by have := HP9.out.prm.length_eq; simp at this; omega)).mono ?_
            rintro e W2 hq
            rcases hq with ⟨h, _⟩ | ⟨_, d2, vo2, a2, l2, out2, R2, rfl, hdq, hno2⟩
            · exact absurd (HSAME.out.symm.trans HC0.out) h
            · obtain ⟨hpn, hls⟩ := HP9.out.next HSI.out (HPI2.out d2) HP9.out.trm (by omega) HDR.out HNO.out hdq hno2
              obtain ⟨Ao2, co2, rfl⟩ := ownsRow_slice hdq.2.2.1
              have HCR := Lib.hid (CutR.good (hpn.more (n' := k + 1) (by omega)) hls)
              clear hpn hls hdq hno2
              go_wp2_with fail
              go_meet
              case rel => exact HCR.out
      case rest =>
        obtain ⟨g1, c, e7, e16, hpi, ⟨L1, L2, hr1, hr2, hab⟩, heo⟩ := hcut
        subst e7 e16
        obtain ⟨A13, c13, rfl, hq1⟩ := hr1
        obtain ⟨A14, c14, rfl, hq2⟩ := hr2
        have HR1 := Lib.hid (show RW wc (.slice A13 L1.length c13) L1 from ⟨A13, c13, rfl, hq1⟩)
        have HR2 := Lib.hid (show RW wc (.slice A14 L2.length c14) L2 from ⟨A14, c14, rfl, hq2⟩)
        have HPI := Lib.hid hpi
        have HAB := Lib.hid hab
        clear hq1 hq2 hpi hab HP9 HX9 HB9 HSM HRM HOK HBEL e0 el9
        rcases heo with ⟨rfl, e15⟩ | ⟨hc, herr, _⟩
        · subst e15
          go_wp2_with fail
          obtain ⟨S, R, ap, ws, L, va, vw, ra, rl, hpl, hwn⟩ := HPI.out
          obtain ⟨A8, c8, rfl, hvr⟩ := hpl.rin.vec
          have HPL := Lib.hid hpl
          have hal := hpl.inf.afew
          clear hpl hvr
          refine wp_region_mono nobody (by kernel_rfl) ?_
          -- 0 Op.move (Operand.tmp 16)
          refine wpMono_take' 0 (v := ?_) rfl (by kernel_rfl) (by kernel_rfl) (by kernel_rfl) (fun _ _ _ h => h) (by rfl) ?_ ?_
          rotate_left
          · (intro W hSw; (first | (have hg := (HPA.out.rin.blk).keeps (X := nobody) hSw (fun h => h); have q1 : W.cell? ⟨gr, 1, none⟩ = some (.slice A8 ap.length c8) := hg.cell 1; have gl := hg.lt) | (have hg := (HPB.out.rin.blk).keeps (X := nobody) hSw (fun h => h); have q1 : W.cell? ⟨gr, 1, none⟩ = some (.slice A8 ap.length c8) := hg.cell 1; have gl := hg.lt) | skip)
             go_simp; first | done | rfl)
          try simp only [Act.put, List.setIfInBounds_toArray, List.set_cons_zero, List.set_cons_succ]
          -- 1 Op.binOp BinOp.eql 3 (Operand.tmp 105) (Operand.const (Value.int IntKind.i64 0)) 3
          refine wpMono_take' 1 (v := ?_) rfl (by kernel_rfl) (by kernel_rfl) (by kernel_rfl) (fun _ _ _ h => h) (by rfl) ?_ ?_
          rotate_left
          · (intro W hSw; (first | (have hg := (HPA.out.rin.blk).keeps (X := nobody) hSw (fun h => h); have q1 : W.cell? ⟨gr, 1, none⟩ = some (.slice A8 ap.length c8) := hg.cell 1; have gl := hg.lt) | (have hg := (HPB.out.rin.blk).keeps (X := nobody) hSw (fun h => h); have q1 : W.cell? ⟨gr, 1, none⟩ = some (.slice A8 ap.length c8) := hg.cell 1; have gl := hg.lt) | skip)
             go_simp; first | done | rfl)
          try simp only [Act.put, List.setIfInBounds_toArray, List.set_cons_zero, List.set_cons_succ]
          -- 2 Op.move (Operand.tmp 106)
          refine wpMono_take' 2 (v := ?_) rfl (by kernel_rfl) (by kernel_rfl) (by kernel_rfl) (fun _ _ _ h => h) (by rfl) ?_ ?_
          rotate_left
          · (intro W hSw; (first | (have hg := (HPA.out.rin.blk).keeps (X := nobody) hSw (fun h => h); have q1 : W.cell? ⟨gr, 1, none⟩ = some (.slice A8 ap.length c8) := hg.cell 1; have gl := hg.lt) | (have hg := (HPB.out.rin.blk).keeps (X := nobody) hSw (fun h => h); have q1 : W.cell? ⟨gr, 1, none⟩ = some (.slice A8 ap.length c8) := hg.cell 1; have gl := hg.lt) | skip)
             go_simp; first | done | rfl)
          try simp only [Act.put, List.setIfInBounds_toArray, List.set_cons_zero, List.set_cons_succ]
          -- 3 Op.move (Operand.tmp 15)
          refine wpMono_take' 3 (v := ?_) rfl (by kernel_rfl) (by kernel_rfl) (by kernel_rfl) (fun _ _ _ h => h) (by rfl) ?_ ?_
          rotate_left
          · (intro W hSw; (first | (have hg := (HPA.out.rin.blk).keeps (X := nobody) hSw (fun h => h); have q1 : W.cell? ⟨gr, 1, none⟩ = some (.slice A8 ap.length c8) := hg.cell 1; have gl := hg.lt) | (have hg := (HPB.out.rin.blk).keeps (X := nobody) hSw (fun h => h); have q1 : W.cell? ⟨gr, 1, none⟩ = some (.slice A8 ap.length c8) := hg.cell 1; have gl := hg.lt) | skip)
             go_simp; first | done | rfl)
          try simp only [Act.put, List.setIfInBounds_toArray, List.set_cons_zero, List.set_cons_succ]
          -- 4 Op.binOp BinOp.neq 40 (Operand.tmp 108) (Operand.const Value.nilIface) 40
          refine wpMono_take' 4 (v := ?_) rfl (by kernel_rfl) (by kernel_rfl) (by kernel_rfl) (fun _ _ _ h => h) (by rfl) ?_ ?_
          rotate_left
          · (intro W hSw; (first | (have hg := (HPA.out.rin.blk).keeps (X := nobody) hSw (fun h => h); have q1 : W.cell? ⟨gr, 1, none⟩ = some (.slice A8 ap.length c8) := hg.cell 1; have gl := hg.lt) | (have hg := (HPB.out.rin.blk).keeps (X := nobody) hSw (fun h => h); have q1 : W.cell? ⟨gr, 1, none⟩ = some (.slice A8 ap.length c8) := hg.cell 1; have gl := hg.lt) | skip)
             go_simp; first | done | rfl)
          try simp only [Act.put, List.setIfInBounds_toArray, List.set_cons_zero, List.set_cons_succ]
          -- 5 Op.pick (Operand.tmp 107) (Operand.tmp 109) (Operand.const (Value.bool false))
          refine wpMono_take' 5 (v := ?_) rfl (by kernel_rfl) (by kernel_rfl) (by kernel_rfl) (fun _ _ _ h => h) (by rfl) ?_ ?_
          rotate_left
          · (intro W hSw; (first | (have hg := (HPA.out.rin.blk).keeps (X := nobody) hSw (fun h => h); have q1 : W.cell? ⟨gr, 1, none⟩ = some (.slice A8 ap.length c8) := hg.cell 1; have gl := hg.lt) | (have hg := (HPB.out.rin.blk).keeps (X := nobody) hSw (fun h => h); have q1 : W.cell? ⟨gr, 1, none⟩ = some (.slice A8 ap.length c8) := hg.cell 1; have gl := hg.lt) | skip)
             go_simp; first | done | rfl)
          try simp only [Act.put, List.setIfInBounds_toArray, List.set_cons_zero, List.set_cons_succ]
          -- 6 Op.move (Operand.tmp 110)
          refine wpMono_take' 6 (v := ?_) rfl (by kernel_rfl) (by kernel_rfl) (by kernel_rfl) (fun _ _ _ h => h) (by rfl) ?_ ?_
          rotate_left
          · (intro W hSw; (first | (have hg := (HPA.out.rin.blk).keeps (X := nobody) hSw (fun h => h); have q1 : W.cell? ⟨gr, 1, none⟩ = some (.slice A8 ap.length c8) := hg.cell 1; have gl := hg.lt) | (have hg := (HPB.out.rin.blk).keeps (X := nobody) hSw (fun h => h); have q1 : W.cell? ⟨gr, 1, none⟩ = some (.slice A8 ap.length c8) := hg.cell 1; have gl := hg.lt) | skip)
             go_simp; first | done | rfl)
          try simp only [Act.put, List.setIfInBounds_toArray, List.set_cons_zero, List.set_cons_succ]
          -- 7 Op.move (Operand.tmp 16)
          refine wpMono_take' 7 (v := ?_) rfl (by kernel_rfl) (by kernel_rfl) (by kernel_rfl) (fun _ _ _ h => h) (by rfl) ?_ ?_
          rotate_left
          · (intro W hSw; (first | (have hg := (HPA.out.rin.blk).keeps (X := nobody) hSw (fun h => h); have q1 : W.cell? ⟨gr, 1, none⟩ = some (.slice A8 ap.length c8) := hg.cell 1; have gl := hg.lt) | (have hg := (HPB.out.rin.blk).keeps (X := nobody) hSw (fun h => h); have q1 : W.cell? ⟨gr, 1, none⟩ = some (.slice A8 ap.length c8) := hg.cell 1; have gl := hg.lt) | skip)
             go_simp; first | done | rfl)
          try simp only [Act.put, List.setIfInBounds_toArray, List.set_cons_zero, List.set_cons_succ]
          -- 8 Op.binOp BinOp.neq 3 (Operand.tmp 112) (Operand.const (Value.int IntKind.i64 0)) 3
          refine wpMono_take' 8 (v := ?_) rfl (by kernel_rfl) (by kernel_rfl) (by kernel_rfl) (fun _ _ _ h => h) (by rfl) ?_ ?_
          rotate_left
          · (intro W hSw; (first | (have hg := (HPA.out.rin.blk).keeps (X := nobody) hSw (fun h => h); have q1 : W.cell? ⟨gr, 1, none⟩ = some (.slice A8 ap.length c8) := hg.cell 1; have gl := hg.lt) | (have hg := (HPB.out.rin.blk).keeps (X := nobody) hSw (fun h => h); have q1 : W.cell? ⟨gr, 1, none⟩ = some (.slice A8 ap.length c8) := hg.cell 1; have gl := hg.lt) | skip)
             go_simp; first | done | rfl)
          try simp only [Act.put, List.setIfInBounds_toArray, List.set_cons_zero, List.set_cons_succ]
          -- 9 Op.move (Operand.tmp 113)
          refine wpMono_take' 9 (v := ?_) rfl (by kernel_rfl) (by kernel_rfl) (by kernel_rfl) (fun _ _ _ h => h) (by rfl) ?_ ?_
          rotate_left
          · (intro W hSw; (first | (have hg := (HPA.out.rin.blk).keeps (X := nobody) hSw (fun h => h); have q1 : W.cell? ⟨gr, 1, none⟩ = some (.slice A8 ap.length c8) := hg.cell 1; have gl := hg.lt) | (have hg := (HPB.out.rin.blk).keeps (X := nobody) hSw (fun h => h); have q1 : W.cell? ⟨gr, 1, none⟩ = some (.slice A8 ap.length c8) := hg.cell 1; have gl := hg.lt) | skip)
             go_simp; first | done | rfl)
          try simp only [Act.put, List.setIfInBounds_toArray, List.set_cons_zero, List.set_cons_succ]
          -- 10 Op.move (Operand.tmp 15)
          refine wpMono_skip' 10 rfl (by kernel_rfl) (by kernel_rfl) (by kernel_rfl) (fun _ _ _ h => h) (by rfl) ?_
          try simp only [Act.put, List.setIfInBounds_toArray, List.set_cons_zero, List.set_cons_succ]
          -- 11 Op.move (Operand.tmp 16)
          refine wpMono_skip' 11 rfl (by kernel_rfl) (by kernel_rfl) (by kernel_rfl) (fun _ _ _ h => h) (by rfl) ?_
          try simp only [Act.put, List.setIfInBounds_toArray, List.set_cons_zero, List.set_cons_succ]
          -- 12 Op.makeInterface 61 (Operand.tmp 116)
          refine wpMono_skip' 12 rfl (by kernel_rfl) (by kernel_rfl) (by kernel_rfl) (fun _ _ _ h => h) (by rfl) ?_
          try simp only [Act.put, List.setIfInBounds_toArray, List.set_cons_zero, List.set_cons_succ]
          -- 13 Op.call { callee := Callee.value (Operand.func 22), args := #[Operand.tmp 115, Operand.tmp
          refine wpMono_skip' 13 rfl (by kernel_rfl) (by kernel_rfl) (by kernel_rfl) (fun _ _ _ h => h) (by rfl) ?_
          try simp only [Act.put, List.setIfInBounds_toArray, List.set_cons_zero, List.set_cons_succ]
          -- 14 Op.unOp UnOp.not 4 (Operand.tmp 118)
          refine wpMono_skip' 14 rfl (by kernel_rfl) (by kernel_rfl) (by kernel_rfl) (fun _ _ _ h => h) (by rfl) ?_
          try simp only [Act.put, List.setIfInBounds_toArray, List.set_cons_zero, List.set_cons_succ]
          -- 15 Op.pick (Operand.tmp 114) (Operand.tmp 119) (Operand.const (Value.bool false))
          refine wpMono_take' 15 (v := ?_) rfl (by kernel_rfl) (by kernel_rfl) (by kernel_rfl) (fun _ _ _ h => h) (by rfl) ?_ ?_
          rotate_left
          · (intro W hSw; (first | (have hg := (HPA.out.rin.blk).keeps (X := nobody) hSw (fun h => h); have q1 : W.cell? ⟨gr, 1, none⟩ = some (.slice A8 ap.length c8) := hg.cell 1; have gl := hg.lt) | (have hg := (HPB.out.rin.blk).keeps (X := nobody) hSw (fun h => h); have q1 : W.cell? ⟨gr, 1, none⟩ = some (.slice A8 ap.length c8) := hg.cell 1; have gl := hg.lt) | skip)
             go_simp; first | done | rfl)
          try simp only [Act.put, List.setIfInBounds_toArray, List.set_cons_zero, List.set_cons_succ]
          -- 16 Op.pick (Operand.tmp 111) (Operand.const (Value.bool true)) (Operand.tmp 120)
          refine wpMono_take' 16 (v := ?_) rfl (by kernel_rfl) (by kernel_rfl) (by kernel_rfl) (fun _ _ _ h => h) (by rfl) ?_ ?_
          rotate_left
          · (intro W hSw; (first | (have hg := (HPA.out.rin.blk).keeps (X := nobody) hSw (fun h => h); have q1 : W.cell? ⟨gr, 1, none⟩ = some (.slice A8 ap.length c8) := hg.cell 1; have gl := hg.lt) | (have hg := (HPB.out.rin.blk).keeps (X := nobody) hSw (fun h => h); have q1 : W.cell? ⟨gr, 1, none⟩ = some (.slice A8 ap.length c8) := hg.cell 1; have gl := hg.lt) | skip)
             go_simp; first | done | rfl)
          try simp only [Act.put, List.setIfInBounds_toArray, List.set_cons_zero, List.set_cons_succ]
          -- 17 Op.move (Operand.tmp 121)
          refine wpMono_take' 17 (v := ?_) rfl (by kernel_rfl) (by kernel_rfl) (by kernel_rfl) (fun _ _ _ h => h) (by rfl) ?_ ?_
          rotate_left
          · (intro W hSw; (first | (have hg := (HPA.out.rin.blk).keeps (X := nobody) hSw (fun h => h); have q1 : W.cell? ⟨gr, 1, none⟩ = some (.slice A8 ap.length c8) := hg.cell 1; have gl := hg.lt) | (have hg := (HPB.out.rin.blk).keeps (X := nobody) hSw (fun h => h); have q1 : W.cell? ⟨gr, 1, none⟩ = some (.slice A8 ap.length c8) := hg.cell 1; have gl := hg.lt) | skip)
             go_simp; first | done | rfl)
          try simp only [Act.put, List.setIfInBounds_toArray, List.set_cons_zero, List.set_cons_succ]
          -- 18 Op.move (Operand.tmp 13)
          refine wpMono_take' 18 (v := ?_) rfl (by kernel_rfl) (by kernel_rfl) (by kernel_rfl) (fun _ _ _ h => h) (by rfl) ?_ ?_
          rotate_left
          · (intro W hSw; (first | (have hg := (HPA.out.rin.blk).keeps (X := nobody) hSw (fun h => h); have q1 : W.cell? ⟨gr, 1, none⟩ = some (.slice A8 ap.length c8) := hg.cell 1; have gl := hg.lt) | (have hg := (HPB.out.rin.blk).keeps (X := nobody) hSw (fun h => h); have q1 : W.cell? ⟨gr, 1, none⟩ = some (.slice A8 ap.length c8) := hg.cell 1; have gl := hg.lt) | skip)
             go_simp; first | done | rfl)
          try simp only [Act.put, List.setIfInBounds_toArray, List.set_cons_zero, List.set_cons_succ]
          -- 19 Op.move (Operand.tmp 14)
          refine wpMono_take' 19 (v := ?_) rfl (by kernel_rfl) (by kernel_rfl) (by kernel_rfl) (fun _ _ _ h => h) (by rfl) ?_ ?_
          rotate_left
          · (intro W hSw; (first | (have hg := (HPA.out.rin.blk).keeps (X := nobody) hSw (fun h => h); have q1 : W.cell? ⟨gr, 1, none⟩ = some (.slice A8 ap.length c8) := hg.cell 1; have gl := hg.lt) | (have hg := (HPB.out.rin.blk).keeps (X := nobody) hSw (fun h => h); have q1 : W.cell? ⟨gr, 1, none⟩ = some (.slice A8 ap.length c8) := hg.cell 1; have gl := hg.lt) | skip)
             go_simp; first | done | rfl)
          try simp only [Act.put, List.setIfInBounds_toArray, List.set_cons_zero, List.set_cons_succ]
          -- EFFECT 20 Op.call { callee := Callee.value (Operand.func 26), args := #[Operand.tmp 123, Operand.tmp 124], argTypes := #[25, 25] }
          refine wpMono_one' 20 (by kernel_rfl) rfl (by rfl) (fun K hK => ?_)
          go_simp
          refine (same_writes (.slice A13 L1.length c13) (.slice A14 L2.length c14) L1 L2 wc.drew (show RW wc.drew _ L1 from HR1.out.below (Below.refl _ wc).drew) (show RW wc.drew _ L2 from HR2.out.below (Below.refl _ wc).drew) HAB.out).mono ?_
          rintro e w21 ⟨rfl, hb21⟩
          have HPA := Lib.hid (HPL.out.below (below_ofDrew hb21))
          refine hK.out _ _ ?_ ?_
          · exact .of_below hb21
          clear hK K
          try simp only [Act.put, List.setIfInBounds_toArray, List.set_cons_zero, List.set_cons_succ]
          -- 21 Op.unOp UnOp.not 4 (Operand.tmp 125)
          refine wpMono_take' 21 (v := ?_) rfl (by kernel_rfl) (by kernel_rfl) (by kernel_rfl) (fun _ _ _ h => h) (by rfl) ?_ ?_
          rotate_left
          · (intro W hSw; (first | (have hg := (HPA.out.rin.blk).keeps (X := nobody) hSw (fun h => h); have q1 : W.cell? ⟨gr, 1, none⟩ = some (.slice A8 ap.length c8) := hg.cell 1; have gl := hg.lt) | (have hg := (HPB.out.rin.blk).keeps (X := nobody) hSw (fun h => h); have q1 : W.cell? ⟨gr, 1, none⟩ = some (.slice A8 ap.length c8) := hg.cell 1; have gl := hg.lt) | skip)
             go_simp; first | done | rfl)
          try simp only [Act.put, List.setIfInBounds_toArray, List.set_cons_zero, List.set_cons_succ]
          -- 22 Op.pick (Operand.tmp 122) (Operand.const (Value.bool true)) (Operand.tmp 126)
          refine wpMono_take' 22 (v := ?_) rfl (by kernel_rfl) (by kernel_rfl) (by kernel_rfl) (fun _ _ _ h => h) (by rfl) ?_ ?_
          rotate_left
          · (intro W hSw; (first | (have hg := (HPA.out.rin.blk).keeps (X := nobody) hSw (fun h => h); have q1 : W.cell? ⟨gr, 1, none⟩ = some (.slice A8 ap.length c8) := hg.cell 1; have gl := hg.lt) | (have hg := (HPB.out.rin.blk).keeps (X := nobody) hSw (fun h => h); have q1 : W.cell? ⟨gr, 1, none⟩ = some (.slice A8 ap.length c8) := hg.cell 1; have gl := hg.lt) | skip)
             go_simp; first | done | rfl)
          try simp only [Act.put, List.setIfInBounds_toArray, List.set_cons_zero, List.set_cons_succ]
          -- 23 Op.move (Operand.tmp 127)
          refine wpMono_take' 23 (v := ?_) rfl (by kernel_rfl) (by kernel_rfl) (by kernel_rfl) (fun _ _ _ h => h) (by rfl) ?_ ?_
          rotate_left
          · (intro W hSw; (first | (have hg := (HPA.out.rin.blk).keeps (X := nobody) hSw (fun h => h); have q1 : W.cell? ⟨gr, 1, none⟩ = some (.slice A8 ap.length c8) := hg.cell 1; have gl := hg.lt) | (have hg := (HPB.out.rin.blk).keeps (X := nobody) hSw (fun h => h); have q1 : W.cell? ⟨gr, 1, none⟩ = some (.slice A8 ap.length c8) := hg.cell 1; have gl := hg.lt) | skip)
             go_simp; first | done | rfl)
          try simp only [Act.put, List.setIfInBounds_toArray, List.set_cons_zero, List.set_cons_succ]
          -- 24 Op.move (Operand.tmp 7)
          refine wpMono_take' 24 (v := ?_) rfl (by kernel_rfl) (by kernel_rfl) (by kernel_rfl) (fun _ _ _ h => h) (by rfl) ?_ ?_
          rotate_left
          · (intro W hSw; (first | (have hg := (HPA.out.rin.blk).keeps (X := nobody) hSw (fun h => h); have q1 : W.cell? ⟨gr, 1, none⟩ = some (.slice A8 ap.length c8) := hg.cell 1; have gl := hg.lt) | (have hg := (HPB.out.rin.blk).keeps (X := nobody) hSw (fun h => h); have q1 : W.cell? ⟨gr, 1, none⟩ = some (.slice A8 ap.length c8) := hg.cell 1; have gl := hg.lt) | skip)
             go_simp; first | done | rfl)
          try simp only [Act.put, List.setIfInBounds_toArray, List.set_cons_zero, List.set_cons_succ]
          -- 26 Op.move (Operand.tmp 9)
          refine wpMono_take' 26 (v := ?_) rfl (by kernel_rfl) (by kernel_rfl) (by kernel_rfl) (fun _ _ _ h => h) (by rfl) ?_ ?_
          rotate_left
          · (intro W hSw; (first | (have hg := (HPA.out.rin.blk).keeps (X := nobody) hSw (fun h => h); have q1 : W.cell? ⟨gr, 1, none⟩ = some (.slice A8 ap.length c8) := hg.cell 1; have gl := hg.lt) | (have hg := (HPB.out.rin.blk).keeps (X := nobody) hSw (fun h => h); have q1 : W.cell? ⟨gr, 1, none⟩ = some (.slice A8 ap.length c8) := hg.cell 1; have gl := hg.lt) | skip)
             go_simp; first | done | rfl)
          try simp only [Act.put, List.setIfInBounds_toArray, List.set_cons_zero, List.set_cons_succ]
          -- 27 Op.nilCheck (Operand.tmp 131)
          refine wpMono_take' 27 (v := ?_) rfl (by kernel_rfl) (by kernel_rfl) (by kernel_rfl) (fun _ _ _ h => h) (by rfl) ?_ ?_
          rotate_left
          · (intro W hSw; (first | (have hg := (HPA.out.rin.blk).keeps (X := nobody) hSw (fun h => h); have q1 : W.cell? ⟨gr, 1, none⟩ = some (.slice A8 ap.length c8) := hg.cell 1; have gl := hg.lt) | (have hg := (HPB.out.rin.blk).keeps (X := nobody) hSw (fun h => h); have q1 : W.cell? ⟨gr, 1, none⟩ = some (.slice A8 ap.length c8) := hg.cell 1; have gl := hg.lt) | skip)
             go_simp; first | done | rfl)
          try simp only [Act.put, List.setIfInBounds_toArray, List.set_cons_zero, List.set_cons_succ]
          -- 28 Op.fieldAddr 68 (Operand.tmp 132) 1
          refine wpMono_take' 28 (v := ?_) rfl (by kernel_rfl) (by kernel_rfl) (by kernel_rfl) (fun _ _ _ h => h) (by rfl) ?_ ?_
          rotate_left
          · (intro W hSw; (first | (have hg := (HPA.out.rin.blk).keeps (X := nobody) hSw (fun h => h); have q1 : W.cell? ⟨gr, 1, none⟩ = some (.slice A8 ap.length c8) := hg.cell 1; have gl := hg.lt) | (have hg := (HPB.out.rin.blk).keeps (X := nobody) hSw (fun h => h); have q1 : W.cell? ⟨gr, 1, none⟩ = some (.slice A8 ap.length c8) := hg.cell 1; have gl := hg.lt) | skip)
             go_simp; first | done | rfl)
          try simp only [Act.put, List.setIfInBounds_toArray, List.set_cons_zero, List.set_cons_succ]
          -- 29 Op.load 26 (Operand.tmp 133)
          refine wpMono_take' 29 (v := ?_) rfl (by kernel_rfl) (by kernel_rfl) (by kernel_rfl) (fun _ _ _ h => h) (by rfl) ?_ ?_
          rotate_left
          · (intro W hSw; (first | (have hg := (HPA.out.rin.blk).keeps (X := nobody) hSw (fun h => h); have q1 : W.cell? ⟨gr, 1, none⟩ = some (.slice A8 ap.length c8) := hg.cell 1; have gl := hg.lt) | (have hg := (HPB.out.rin.blk).keeps (X := nobody) hSw (fun h => h); have q1 : W.cell? ⟨gr, 1, none⟩ = some (.slice A8 ap.length c8) := hg.cell 1; have gl := hg.lt) | skip)
             go_simp; first | done | rfl)
          try simp only [Act.put, List.setIfInBounds_toArray, List.set_cons_zero, List.set_cons_succ]
          -- EFFECT 25 Op.call { callee := Callee.value (Operand.func 20), args := #[Operand.tmp 129], argTypes := #[38] }
          refine wpMono_one' 25 (by kernel_rfl) rfl (by rfl) (fun K hK => ?_)
          go_simp
          refine (applied_any g1 rg S ap ws va vw w21 HPA.out.inf).mono ?_
          rintro e w22 ⟨v22, rfl, hown22, hb22⟩
          rw [HPA.out.trm] at hown22
          obtain ⟨A9, c9, rfl⟩ := ownsRow_slice hown22
          have HPB := Lib.hid (HPA.out.below hb22)
          have HO22 := Lib.hid hown22
          have HK22 := Lib.hid hb22
          clear hown22 hb22
          refine hK.out _ _ ?_ ?_
          · exact .of_below HK22.out
          clear hK K
          try simp only [Act.put, List.setIfInBounds_toArray, List.set_cons_zero, List.set_cons_succ]
          -- EFFECT 30 Op.call { callee := Callee.value (Operand.func 19), args := #[Operand.tmp 130, Operand.tmp 134], argTypes := #[26, 26] }
          refine wpMono_one' 30 (by kernel_rfl) rfl (by rfl) (fun K hK => ?_)
          go_simp
          have hn8 : Nums w22 w22.heap.size (.slice A8 ap.length c8) ap := by
            obtain ⟨A, c, e, hv⟩ := HPB.out.rin.vec
            exact ⟨A, _, c, e, hv.1, Nat.le_trans hv.2.1 hv.2.2.1, hv.2.2.2.1⟩
          have hn9 : Nums w22 w22.heap.size (.slice A9 ap.length c9) ap := by
            obtain ⟨A, c, e, hv⟩ := Vec.of_own (n := ap.length) (zs := ap) (own_low HO22.out (Nat.zero_le _))
            exact ⟨A, _, c, e, hv.1, Nat.le_trans hv.2.1 hv.2.2.1, hv.2.2.2.1⟩
          refine (same_vec _ _ ap w22 hn9 hn8).mono ?_
          rintro e w23 ⟨rfl, hb23⟩
          have HPC := Lib.hid (HPB.out.below hb23)
          have HK23 := Lib.hid hb23
          clear hb23 hn8 hn9
          refine hK.out _ _ ?_ ?_
          · exact .of_below HK23.out
          clear hK K
          try simp only [Act.put, List.setIfInBounds_toArray, List.set_cons_zero, List.set_cons_succ]
          -- 31 Op.unOp UnOp.not 4 (Operand.tmp 135)
          refine wpMono_take' 31 (v := ?_) rfl (by kernel_rfl) (by kernel_rfl) (by kernel_rfl) (fun _ _ _ h => h) (by rfl) ?_ ?_
          rotate_left
          · (intro W hSw; (first | (have hg := (HPA.out.rin.blk).keeps (X := nobody) hSw (fun h => h); have q1 : W.cell? ⟨gr, 1, none⟩ = some (.slice A8 ap.length c8) := hg.cell 1; have gl := hg.lt) | (have hg := (HPB.out.rin.blk).keeps (X := nobody) hSw (fun h => h); have q1 : W.cell? ⟨gr, 1, none⟩ = some (.slice A8 ap.length c8) := hg.cell 1; have gl := hg.lt) | skip)
             go_simp; first | done | rfl)
          try simp only [Act.put, List.setIfInBounds_toArray, List.set_cons_zero, List.set_cons_succ]
          -- 32 Op.pick (Operand.tmp 128) (Operand.const (Value.bool true)) (Operand.tmp 136)
          refine wpMono_take' 32 (v := ?_) rfl (by kernel_rfl) (by kernel_rfl) (by kernel_rfl) (fun _ _ _ h => h) (by rfl) ?_ ?_
          rotate_left
          · (intro W hSw; (first | (have hg := (HPA.out.rin.blk).keeps (X := nobody) hSw (fun h => h); have q1 : W.cell? ⟨gr, 1, none⟩ = some (.slice A8 ap.length c8) := hg.cell 1; have gl := hg.lt) | (have hg := (HPB.out.rin.blk).keeps (X := nobody) hSw (fun h => h); have q1 : W.cell? ⟨gr, 1, none⟩ = some (.slice A8 ap.length c8) := hg.cell 1; have gl := hg.lt) | skip)
             go_simp; first | done | rfl)
          try simp only [Act.put, List.setIfInBounds_toArray, List.set_cons_zero, List.set_cons_succ]
          -- 33 Op.move (Operand.tmp 137)
          refine wpMono_take' 33 (v := ?_) rfl (by kernel_rfl) (by kernel_rfl) (by kernel_rfl) (fun _ _ _ h => h) (by rfl) ?_ ?_
          rotate_left
          · (intro W hSw; (first | (have hg := (HPA.out.rin.blk).keeps (X := nobody) hSw (fun h => h); have q1 : W.cell? ⟨gr, 1, none⟩ = some (.slice A8 ap.length c8) := hg.cell 1; have gl := hg.lt) | (have hg := (HPB.out.rin.blk).keeps (X := nobody) hSw (fun h => h); have q1 : W.cell? ⟨gr, 1, none⟩ = some (.slice A8 ap.length c8) := hg.cell 1; have gl := hg.lt) | skip)
             go_simp; first | done | rfl)
          try simp only [Act.put, List.setIfInBounds_toArray, List.set_cons_zero, List.set_cons_succ]
          -- 34 Op.move (Operand.tmp 7)
          refine wpMono_take' 34 (v := ?_) rfl (by kernel_rfl) (by kernel_rfl) (by kernel_rfl) (fun _ _ _ h => h) (by rfl) ?_ ?_
          rotate_left
          · (intro W hSw; (first | (have hg := (HPA.out.rin.blk).keeps (X := nobody) hSw (fun h => h); have q1 : W.cell? ⟨gr, 1, none⟩ = some (.slice A8 ap.length c8) := hg.cell 1; have gl := hg.lt) | (have hg := (HPB.out.rin.blk).keeps (X := nobody) hSw (fun h => h); have q1 : W.cell? ⟨gr, 1, none⟩ = some (.slice A8 ap.length c8) := hg.cell 1; have gl := hg.lt) | skip)
             go_simp; first | done | rfl)
          try simp only [Act.put, List.setIfInBounds_toArray, List.set_cons_zero, List.set_cons_succ]
          -- 36 Op.move (Operand.tmp 9)
          refine wpMono_take' 36 (v := ?_) rfl (by kernel_rfl) (by kernel_rfl) (by kernel_rfl) (fun _ _ _ h => h) (by rfl) ?_ ?_
          rotate_left
          · (intro W hSw; (first | (have hg := (HPA.out.rin.blk).keeps (X := nobody) hSw (fun h => h); have q1 : W.cell? ⟨gr, 1, none⟩ = some (.slice A8 ap.length c8) := hg.cell 1; have gl := hg.lt) | (have hg := (HPB.out.rin.blk).keeps (X := nobody) hSw (fun h => h); have q1 : W.cell? ⟨gr, 1, none⟩ = some (.slice A8 ap.length c8) := hg.cell 1; have gl := hg.lt) | skip)
             go_simp; first | done | rfl)
          try simp only [Act.put, List.setIfInBounds_toArray, List.set_cons_zero, List.set_cons_succ]
          -- EFFECT 35 Op.call { callee := Callee.value (Operand.func 15), args := #[Operand.tmp 139], argTypes := #[38] }
          refine wpMono_one' 35 (by kernel_rfl) rfl (by rfl) (fun K hK => ?_)
          go_simp
          refine (waits_any g1 rg S ap ws va vw w23 HPC.out.inf).mono ?_
          rintro e w24 ⟨⟨v24, L4, rfl, hab4, hO4⟩, hb24⟩
          obtain ⟨A10, c10, rfl⟩ := ownsRow_slice hO4.row
          have HPD := Lib.hid (HPC.out.below hb24)
          have HO4 := Lib.hid hO4
          have HAB4 := Lib.hid hab4
          have HK24 := Lib.hid hb24
          clear hab4 hO4 hb24
          refine hK.out _ _ ?_ ?_
          · exact .of_below HK24.out
          clear hK K
          try simp only [Act.put, List.setIfInBounds_toArray, List.set_cons_zero, List.set_cons_succ]
          -- EFFECT 37 Op.call { callee := Callee.value (Operand.func 27), args := #[Operand.tmp 141], argTypes := #[57] }
          refine wpMono_one' 37 (by kernel_rfl) rfl (by rfl) (fun K hK => ?_)
          go_simp
          refine (waits_ref gr rg R ap L _ rl w24 HPD.out.rin HPD.out.dist).mono ?_
          rintro e w25 ⟨v25, L5, rfl, hO5, hp5, hs5, hb25⟩
          obtain ⟨A11, c11, rfl⟩ := ownsRow_slice hO5
          have HPE := Lib.hid (HPD.out.below hb25)
          have HO5 := Lib.hid hO5
          have HP5 := Lib.hid hp5
          have HS5 := Lib.hid hs5
          have HK25 := Lib.hid hb25
          clear hO5 hp5 hs5 hb25
          refine hK.out _ _ ?_ ?_
          · exact .of_below HK25.out
          clear hK K
          try simp only [Act.put, List.setIfInBounds_toArray, List.set_cons_zero, List.set_cons_succ]
          -- EFFECT 38 Op.call { callee := Callee.value (Operand.func 26), args := #[Operand.tmp 140, Operand.tmp 142], argTypes := #[25, 25] }
          refine wpMono_one' 38 (by kernel_rfl) rfl (by rfl) (fun K hK => ?_)
          go_simp
          have hab5 : L4.map Wr.abs = L5.map Wr.abs := by
            rw [HAB4.out]
            exact sorted_one HPL.out.srt.absm HS5.out.absm (HPL.out.prm.trans (HP5.out.map _).symm)
          have hr4 : RW w25 (.slice A10 L4.length c10) L4 := (HO4.out.rw).below HK25.out
          have hr5 : RW w25 (.slice A11 L5.length c11) L5 := (OW.rw (S := fun _ => True) (lo := 0) ⟨own_low HO5.out (Nat.zero_le _), by have := HP5.out.length_eq; have := HPL.out.rin.wfew; omega, fun x hx => HPE.out.rin.num x (HP5.out.subset hx), fun _ _ => trivial, fun _ _ _ _ => trivial⟩)
          refine (same_writes _ _ L4 L5 w25 hr4 hr5 hab5).mono ?_
          rintro e w26 ⟨rfl, hb26⟩
          have HPF := Lib.hid (show PlI w g1 gr rg (k + 1) w26 from ⟨S, R, ap, ws, L, va, vw, _, rl, HPE.out.below hb26, hwn⟩)
          refine hK.out _ _ ?_ ?_
          · exact .of_below hb26
          clear hK K
          try simp only [Act.put, List.setIfInBounds_toArray, List.set_cons_zero, List.set_cons_succ]
          -- 39 Op.unOp UnOp.not 4 (Operand.tmp 143)
          refine wpMono_take' 39 (v := ?_) rfl (by kernel_rfl) (by kernel_rfl) (by kernel_rfl) (fun _ _ _ h => h) (by rfl) ?_ ?_
          rotate_left
          · (intro W hSw; (first | (have hg := (HPA.out.rin.blk).keeps (X := nobody) hSw (fun h => h); have q1 : W.cell? ⟨gr, 1, none⟩ = some (.slice A8 ap.length c8) := hg.cell 1; have gl := hg.lt) | (have hg := (HPB.out.rin.blk).keeps (X := nobody) hSw (fun h => h); have q1 : W.cell? ⟨gr, 1, none⟩ = some (.slice A8 ap.length c8) := hg.cell 1; have gl := hg.lt) | skip)
             go_simp; first | done | rfl)
          try simp only [Act.put, List.setIfInBounds_toArray, List.set_cons_zero, List.set_cons_succ]
          -- 40 Op.pick (Operand.tmp 138) (Operand.const (Value.bool true)) (Operand.tmp 144)
          refine wpMono_take' 40 (v := ?_) rfl (by kernel_rfl) (by kernel_rfl) (by kernel_rfl) (fun _ _ _ h => h) (by rfl) ?_ ?_
          rotate_left
          · (intro W hSw; (first | (have hg := (HPA.out.rin.blk).keeps (X := nobody) hSw (fun h => h); have q1 : W.cell? ⟨gr, 1, none⟩ = some (.slice A8 ap.length c8) := hg.cell 1; have gl := hg.lt) | (have hg := (HPB.out.rin.blk).keeps (X := nobody) hSw (fun h => h); have q1 : W.cell? ⟨gr, 1, none⟩ = some (.slice A8 ap.length c8) := hg.cell 1; have gl := hg.lt) | skip)
             go_simp; first | done | rfl)
          try simp only [Act.put, List.setIfInBounds_toArray, List.set_cons_zero, List.set_cons_succ]
          refine wpMono_done (by kernel_rfl) ?_ _
          go_wp2_with fail
          go_roundw
          case rel => exact ⟨k + 1, g1, by omega, by go_num, rfl, HPF.out⟩
          case measure => (simp [intOf]; try omega)
        · obtain ⟨ge, e15⟩ := herr.form
          subst e15
          have HERR := Lib.hid herr
          have dc1 : (c == 0) = false := by simpa using hc
          have dc2 : (c != 0) = true := by simpa using hc
          clear herr hc
          go_wp2_with fail
          obtain ⟨S, R, ap, ws, L, va, vw, ra, rl, hpl, hwn⟩ := HPI.out
          obtain ⟨A8, c8, rfl, hvr⟩ := hpl.rin.vec
          have HPL := Lib.hid hpl
          have hal := hpl.inf.afew
          clear hpl hvr
          refine wp_region_mono nobody (by kernel_rfl) ?_
          -- 0 Op.move (Operand.tmp 16)
          refine wpMono_take' 0 (v := ?_) rfl (by kernel_rfl) (by kernel_rfl) (by kernel_rfl) (fun _ _ _ h => h) (by rfl) ?_ ?_
          rotate_left
          · (intro W hSw; (first | (have hg := (HPA.out.rin.blk).keeps (X := nobody) hSw (fun h => h); have q1 : W.cell? ⟨gr, 1, none⟩ = some (.slice A8 ap.length c8) := hg.cell 1; have gl := hg.lt) | (have hg := (HPB.out.rin.blk).keeps (X := nobody) hSw (fun h => h); have q1 : W.cell? ⟨gr, 1, none⟩ = some (.slice A8 ap.length c8) := hg.cell 1; have gl := hg.lt) | skip)
             go_simp; first | done | rfl)
          try simp only [Act.put, List.setIfInBounds_toArray, List.set_cons_zero, List.set_cons_succ]
          -- 1 Op.binOp BinOp.eql 3 (Operand.tmp 105) (Operand.const (Value.int IntKind.i64 0)) 3
          refine wpMono_take' 1 (v := ?_) rfl (by kernel_rfl) (by kernel_rfl) (by kernel_rfl) (fun _ _ _ h => h) (by rfl) ?_ ?_
          rotate_left
          · (intro W hSw; (first | (have hg := (HPA.out.rin.blk).keeps (X := nobody) hSw (fun h => h); have q1 : W.cell? ⟨gr, 1, none⟩ = some (.slice A8 ap.length c8) := hg.cell 1; have gl := hg.lt) | (have hg := (HPB.out.rin.blk).keeps (X := nobody) hSw (fun h => h); have q1 : W.cell? ⟨gr, 1, none⟩ = some (.slice A8 ap.length c8) := hg.cell 1; have gl := hg.lt) | skip)
             go_simp; first | done | rfl)
          try simp only [Act.put, List.setIfInBounds_toArray, List.set_cons_zero, List.set_cons_succ]
          -- 2 Op.move (Operand.tmp 106)
          refine wpMono_take' 2 (v := ?_) rfl (by kernel_rfl) (by kernel_rfl) (by kernel_rfl) (fun _ _ _ h => h) (by rfl) ?_ ?_
          rotate_left
          · (intro W hSw; (first | (have hg := (HPA.out.rin.blk).keeps (X := nobody) hSw (fun h => h); have q1 : W.cell? ⟨gr, 1, none⟩ = some (.slice A8 ap.length c8) := hg.cell 1; have gl := hg.lt) | (have hg := (HPB.out.rin.blk).keeps (X := nobody) hSw (fun h => h); have q1 : W.cell? ⟨gr, 1, none⟩ = some (.slice A8 ap.length c8) := hg.cell 1; have gl := hg.lt) | skip)
             go_simp; first | done | rfl)
          try simp only [Act.put, List.setIfInBounds_toArray, List.set_cons_zero, List.set_cons_succ]
          -- 3 Op.move (Operand.tmp 15)
          refine wpMono_skip' 3 rfl (by kernel_rfl) (by kernel_rfl) (by kernel_rfl) (fun _ _ _ h => h) (by rfl) ?_
          try simp only [Act.put, List.setIfInBounds_toArray, List.set_cons_zero, List.set_cons_succ]
          -- 4 Op.binOp BinOp.neq 40 (Operand.tmp 108) (Operand.const Value.nilIface) 40
          refine wpMono_skip' 4 rfl (by kernel_rfl) (by kernel_rfl) (by kernel_rfl) (fun _ _ _ h => h) (by rfl) ?_
          try simp only [Act.put, List.setIfInBounds_toArray, List.set_cons_zero, List.set_cons_succ]
          -- 5 Op.pick (Operand.tmp 107) (Operand.tmp 109) (Operand.const (Value.bool false))
          refine wpMono_take' 5 (v := ?_) rfl (by kernel_rfl) (by kernel_rfl) (by kernel_rfl) (fun _ _ _ h => h) (by rfl) ?_ ?_
          rotate_left
          · (intro W hSw; (first | (have hg := (HPA.out.rin.blk).keeps (X := nobody) hSw (fun h => h); have q1 : W.cell? ⟨gr, 1, none⟩ = some (.slice A8 ap.length c8) := hg.cell 1; have gl := hg.lt) | (have hg := (HPB.out.rin.blk).keeps (X := nobody) hSw (fun h => h); have q1 : W.cell? ⟨gr, 1, none⟩ = some (.slice A8 ap.length c8) := hg.cell 1; have gl := hg.lt) | skip)
             go_simp; first | done | rfl)
          try simp only [Act.put, List.setIfInBounds_toArray, List.set_cons_zero, List.set_cons_succ]
          -- 6 Op.move (Operand.tmp 110)
          refine wpMono_take' 6 (v := ?_) rfl (by kernel_rfl) (by kernel_rfl) (by kernel_rfl) (fun _ _ _ h => h) (by rfl) ?_ ?_
          rotate_left
          · (intro W hSw; (first | (have hg := (HPA.out.rin.blk).keeps (X := nobody) hSw (fun h => h); have q1 : W.cell? ⟨gr, 1, none⟩ = some (.slice A8 ap.length c8) := hg.cell 1; have gl := hg.lt) | (have hg := (HPB.out.rin.blk).keeps (X := nobody) hSw (fun h => h); have q1 : W.cell? ⟨gr, 1, none⟩ = some (.slice A8 ap.length c8) := hg.cell 1; have gl := hg.lt) | skip)
             go_simp; first | done | rfl)
          try simp only [Act.put, List.setIfInBounds_toArray, List.set_cons_zero, List.set_cons_succ]
          -- 7 Op.move (Operand.tmp 16)
          refine wpMono_take' 7 (v := ?_) rfl (by kernel_rfl) (by kernel_rfl) (by kernel_rfl) (fun _ _ _ h => h) (by rfl) ?_ ?_
          rotate_left
          · (intro W hSw; (first | (have hg := (HPA.out.rin.blk).keeps (X := nobody) hSw (fun h => h); have q1 : W.cell? ⟨gr, 1, none⟩ = some (.slice A8 ap.length c8) := hg.cell 1; have gl := hg.lt) | (have hg := (HPB.out.rin.blk).keeps (X := nobody) hSw (fun h => h); have q1 : W.cell? ⟨gr, 1, none⟩ = some (.slice A8 ap.length c8) := hg.cell 1; have gl := hg.lt) | skip)
             go_simp; first | done | rfl)
          try simp only [Act.put, List.setIfInBounds_toArray, List.set_cons_zero, List.set_cons_succ]
          -- 8 Op.binOp BinOp.neq 3 (Operand.tmp 112) (Operand.const (Value.int IntKind.i64 0)) 3
          refine wpMono_take' 8 (v := ?_) rfl (by kernel_rfl) (by kernel_rfl) (by kernel_rfl) (fun _ _ _ h => h) (by rfl) ?_ ?_
          rotate_left
          · (intro W hSw; (first | (have hg := (HPA.out.rin.blk).keeps (X := nobody) hSw (fun h => h); have q1 : W.cell? ⟨gr, 1, none⟩ = some (.slice A8 ap.length c8) := hg.cell 1; have gl := hg.lt) | (have hg := (HPB.out.rin.blk).keeps (X := nobody) hSw (fun h => h); have q1 : W.cell? ⟨gr, 1, none⟩ = some (.slice A8 ap.length c8) := hg.cell 1; have gl := hg.lt) | skip)
             go_simp; first | done | rfl)
          try simp only [Act.put, List.setIfInBounds_toArray, List.set_cons_zero, List.set_cons_succ]
          -- 9 Op.move (Operand.tmp 113)
          refine wpMono_take' 9 (v := ?_) rfl (by kernel_rfl) (by kernel_rfl) (by kernel_rfl) (fun _ _ _ h => h) (by rfl) ?_ ?_
          rotate_left
          · (intro W hSw; (first | (have hg := (HPA.out.rin.blk).keeps (X := nobody) hSw (fun h => h); have q1 : W.cell? ⟨gr, 1, none⟩ = some (.slice A8 ap.length c8) := hg.cell 1; have gl := hg.lt) | (have hg := (HPB.out.rin.blk).keeps (X := nobody) hSw (fun h => h); have q1 : W.cell? ⟨gr, 1, none⟩ = some (.slice A8 ap.length c8) := hg.cell 1; have gl := hg.lt) | skip)
             go_simp; first | done | rfl)
          try simp only [Act.put, List.setIfInBounds_toArray, List.set_cons_zero, List.set_cons_succ]
          -- 10 Op.move (Operand.tmp 15)
          refine wpMono_take' 10 (v := ?_) rfl (by kernel_rfl) (by kernel_rfl) (by kernel_rfl) (fun _ _ _ h => h) (by rfl) ?_ ?_
          rotate_left
          · (intro W hSw; (first | (have hg := (HPA.out.rin.blk).keeps (X := nobody) hSw (fun h => h); have q1 : W.cell? ⟨gr, 1, none⟩ = some (.slice A8 ap.length c8) := hg.cell 1; have gl := hg.lt) | (have hg := (HPB.out.rin.blk).keeps (X := nobody) hSw (fun h => h); have q1 : W.cell? ⟨gr, 1, none⟩ = some (.slice A8 ap.length c8) := hg.cell 1; have gl := hg.lt) | skip)
             go_simp; first | done | rfl)
          try simp only [Act.put, List.setIfInBounds_toArray, List.set_cons_zero, List.set_cons_succ]
          -- 11 Op.move (Operand.tmp 16)
          refine wpMono_take' 11 (v := ?_) rfl (by kernel_rfl) (by kernel_rfl) (by kernel_rfl) (fun _ _ _ h => h) (by rfl) ?_ ?_
          rotate_left
          · (intro W hSw; (first | (have hg := (HPA.out.rin.blk).keeps (X := nobody) hSw (fun h => h); have q1 : W.cell? ⟨gr, 1, none⟩ = some (.slice A8 ap.length c8) := hg.cell 1; have gl := hg.lt) | (have hg := (HPB.out.rin.blk).keeps (X := nobody) hSw (fun h => h); have q1 : W.cell? ⟨gr, 1, none⟩ = some (.slice A8 ap.length c8) := hg.cell 1; have gl := hg.lt) | skip)
             go_simp; first | done | rfl)
          try simp only [Act.put, List.setIfInBounds_toArray, List.set_cons_zero, List.set_cons_succ]
          -- EFFECT 12 Op.makeInterface 61 (Operand.tmp 116)
          refine wpMono_one' 12 (by kernel_rfl) rfl (by rfl) (fun K hK => ?_)
          go_simp
          refine hK.out _ _ ?_ ?_
          · exact Keeps.refl _ _
          clear hK K
          try simp only [Act.put, List.setIfInBounds_toArray, List.set_cons_zero, List.set_cons_succ]
          -- EFFECT 13 Op.call { callee := Callee.value (Operand.func 22), args := #[Operand.tmp 115, Operand.tmp 117], argTypes := #[40, 40] }
          refine wpMono_one' 13 (by kernel_rfl) rfl (by rfl) (fun K hK => ?_)
          go_simp
          refine (is_err _ c c wc.drew (HERR.out.below (Below.refl _ wc).drew)).mono ?_
          rintro e w20 ⟨rfl, hw20⟩
          subst hw20
          refine hK.out _ _ ?_ ?_
          · exact Keeps.refl _ _
          clear hK K
          try simp only [Act.put, List.setIfInBounds_toArray, List.set_cons_zero, List.set_cons_succ]
          -- 14 Op.unOp UnOp.not 4 (Operand.tmp 118)
          refine wpMono_take' 14 (v := ?_) rfl (by kernel_rfl) (by kernel_rfl) (by kernel_rfl) (fun _ _ _ h => h) (by rfl) ?_ ?_
          rotate_left
          · (intro W hSw; (first | (have hg := (HPA.out.rin.blk).keeps (X := nobody) hSw (fun h => h); have q1 : W.cell? ⟨gr, 1, none⟩ = some (.slice A8 ap.length c8) := hg.cell 1; have gl := hg.lt) | (have hg := (HPB.out.rin.blk).keeps (X := nobody) hSw (fun h => h); have q1 : W.cell? ⟨gr, 1, none⟩ = some (.slice A8 ap.length c8) := hg.cell 1; have gl := hg.lt) | skip)
             go_simp; first | done | rfl)
          try simp only [Act.put, List.setIfInBounds_toArray, List.set_cons_zero, List.set_cons_succ]
          -- 15 Op.pick (Operand.tmp 114) (Operand.tmp 119) (Operand.const (Value.bool false))
          refine wpMono_take' 15 (v := ?_) rfl (by kernel_rfl) (by kernel_rfl) (by kernel_rfl) (fun _ _ _ h => h) (by rfl) ?_ ?_
          rotate_left
          · (intro W hSw; (first | (have hg := (HPA.out.rin.blk).keeps (X := nobody) hSw (fun h => h); have q1 : W.cell? ⟨gr, 1, none⟩ = some (.slice A8 ap.length c8) := hg.cell 1; have gl := hg.lt) | (have hg := (HPB.out.rin.blk).keeps (X := nobody) hSw (fun h => h); have q1 : W.cell? ⟨gr, 1, none⟩ = some (.slice A8 ap.length c8) := hg.cell 1; have gl := hg.lt) | skip)
             go_simp; first | done | rfl)
          try simp only [Act.put, List.setIfInBounds_toArray, List.set_cons_zero, List.set_cons_succ]
          -- 16 Op.pick (Operand.tmp 111) (Operand.const (Value.bool true)) (Operand.tmp 120)
          refine wpMono_take' 16 (v := ?_) rfl (by kernel_rfl) (by kernel_rfl) (by kernel_rfl) (fun _ _ _ h => h) (by rfl) ?_ ?_
          rotate_left
          · (intro W hSw; (first | (have hg := (HPA.out.rin.blk).keeps (X := nobody) hSw (fun h => h); have q1 : W.cell? ⟨gr, 1, none⟩ = some (.slice A8 ap.length c8) := hg.cell 1; have gl := hg.lt) | (have hg := (HPB.out.rin.blk).keeps (X := nobody) hSw (fun h => h); have q1 : W.cell? ⟨gr, 1, none⟩ = some (.slice A8 ap.length c8) := hg.cell 1; have gl := hg.lt) | skip)
             go_simp; first | done | rfl)
          try simp only [Act.put, List.setIfInBounds_toArray, List.set_cons_zero, List.set_cons_succ]
          -- 17 Op.move (Operand.tmp 121)
          refine wpMono_take' 17 (v := ?_) rfl (by kernel_rfl) (by kernel_rfl) (by kernel_rfl) (fun _ _ _ h => h) (by rfl) ?_ ?_
          rotate_left
          · (intro W hSw; (first | (have hg := (HPA.out.rin.blk).keeps (X := nobody) hSw (fun h => h); have q1 : W.cell? ⟨gr, 1, none⟩ = some (.slice A8 ap.length c8) := hg.cell 1; have gl := hg.lt) | (have hg := (HPB.out.rin.blk).keeps (X := nobody) hSw (fun h => h); have q1 : W.cell? ⟨gr, 1, none⟩ = some (.slice A8 ap.length c8) := hg.cell 1; have gl := hg.lt) | skip)
             go_simp; first | done | rfl)
          try simp only [Act.put, List.setIfInBounds_toArray, List.set_cons_zero, List.set_cons_succ]
          -- 18 Op.move (Operand.tmp 13)
          refine wpMono_take' 18 (v := ?_) rfl (by kernel_rfl) (by kernel_rfl) (by kernel_rfl) (fun _ _ _ h => h) (by rfl) ?_ ?_
          rotate_left
          · (intro W hSw; (first | (have hg := (HPA.out.rin.blk).keeps (X := nobody) hSw (fun h => h); have q1 : W.cell? ⟨gr, 1, none⟩ = some (.slice A8 ap.length c8) := hg.cell 1; have gl := hg.lt) | (have hg := (HPB.out.rin.blk).keeps (X := nobody) hSw (fun h => h); have q1 : W.cell? ⟨gr, 1, none⟩ = some (.slice A8 ap.length c8) := hg.cell 1; have gl := hg.lt) | skip)
             go_simp; first | done | rfl)
          try simp only [Act.put, List.setIfInBounds_toArray, List.set_cons_zero, List.set_cons_succ]
          -- 19 Op.move (Operand.tmp 14)
          refine wpMono_take' 19 (v := ?_) rfl (by kernel_rfl) (by kernel_rfl) (by kernel_rfl) (fun _ _ _ h => h) (by rfl) ?_ ?_
          rotate_left
          · (intro W hSw; (first | (have hg := (HPA.out.rin.blk).keeps (X := nobody) hSw (fun h => h); have q1 : W.cell? ⟨gr, 1, none⟩ = some (.slice A8 ap.length c8) := hg.cell 1; have gl := hg.lt) | (have hg := (HPB.out.rin.blk).keeps (X := nobody) hSw (fun h => h); have q1 : W.cell? ⟨gr, 1, none⟩ = some (.slice A8 ap.length c8) := hg.cell 1; have gl := hg.lt) | skip)
             go_simp; first | done | rfl)
          try simp only [Act.put, List.setIfInBounds_toArray, List.set_cons_zero, List.set_cons_succ]
          -- EFFECT 20 Op.call { callee := Callee.value (Operand.func 26), args := #[Operand.tmp 123, Operand.tmp 124], argTypes := #[25, 25] }
          refine wpMono_one' 20 (by kernel_rfl) rfl (by rfl) (fun K hK => ?_)
          go_simp
          refine (same_writes (.slice A13 L1.length c13) (.slice A14 L2.length c14) L1 L2 wc.drew (show RW wc.drew _ L1 from HR1.out.below (Below.refl _ wc).drew) (show RW wc.drew _ L2 from HR2.out.below (Below.refl _ wc).drew) HAB.out).mono ?_
          rintro e w21 ⟨rfl, hb21⟩
          have HPA := Lib.hid (HPL.out.below (below_ofDrew hb21))
          refine hK.out _ _ ?_ ?_
          · exact .of_below hb21
          clear hK K
          try simp only [Act.put, List.setIfInBounds_toArray, List.set_cons_zero, List.set_cons_succ]
          -- 21 Op.unOp UnOp.not 4 (Operand.tmp 125)
          refine wpMono_take' 21 (v := ?_) rfl (by kernel_rfl) (by kernel_rfl) (by kernel_rfl) (fun _ _ _ h => h) (by rfl) ?_ ?_
          rotate_left
          · (intro W hSw; (first | (have hg := (HPA.out.rin.blk).keeps (X := nobody) hSw (fun h => h); have q1 : W.cell? ⟨gr, 1, none⟩ = some (.slice A8 ap.length c8) := hg.cell 1; have gl := hg.lt) | (have hg := (HPB.out.rin.blk).keeps (X := nobody) hSw (fun h => h); have q1 : W.cell? ⟨gr, 1, none⟩ = some (.slice A8 ap.length c8) := hg.cell 1; have gl := hg.lt) | skip)
             go_simp; first | done | rfl)
          try simp only [Act.put, List.setIfInBounds_toArray, List.set_cons_zero, List.set_cons_succ]
          -- 22 Op.pick (Operand.tmp 122) (Operand.const (Value.bool true)) (Operand.tmp 126)
          refine wpMono_take' 22 (v := ?_) rfl (by kernel_rfl) (by kernel_rfl) (by kernel_rfl) (fun _ _ _ h => h) (by rfl) ?_ ?_
          rotate_left
          · (intro W hSw; (first | (have hg := (HPA.out.rin.blk).keeps (X := nobody) hSw (fun h => h); have q1 : W.cell? ⟨gr, 1, none⟩ = some (.slice A8 ap.length c8) := hg.cell 1; have gl := hg.lt) | (have hg := (HPB.out.rin.blk).keeps (X := nobody) hSw (fun h => h); have q1 : W.cell? ⟨gr, 1, none⟩ = some (.slice A8 ap.length c8) := hg.cell 1; have gl := hg.lt) | skip)
             go_simp; first | done | rfl)
          try simp only [Act.put, List.setIfInBounds_toArray, List.set_cons_zero, List.set_cons_succ]
          -- 23 Op.move (Operand.tmp 127)
          refine wpMono_take' 23 (v := ?_) rfl (by kernel_rfl) (by kernel_rfl) (by kernel_rfl) (fun _ _ _ h => h) (by rfl) ?_ ?_
          rotate_left
          · (intro W hSw; (first | (have hg := (HPA.out.rin.blk).keeps (X := nobody) hSw (fun h => h); have q1 : W.cell? ⟨gr, 1, none⟩ = some (.slice A8 ap.length c8) := hg.cell 1; have gl := hg.lt) | (have hg := (HPB.out.rin.blk).keeps (X := nobody) hSw (fun h => h); have q1 : W.cell? ⟨gr, 1, none⟩ = some (.slice A8 ap.length c8) := hg.cell 1; have gl := hg.lt) | skip)
             go_simp; first | done | rfl)
          try simp only [Act.put, List.setIfInBounds_toArray, List.set_cons_zero, List.set_cons_succ]
          -- 24 Op.move (Operand.tmp 7)
          refine wpMono_take' 24 (v := ?_) rfl (by kernel_rfl) (by kernel_rfl) (by kernel_rfl) (fun _ _ _ h => h) (by rfl) ?_ ?_
          rotate_left
          · (intro W hSw; (first | (have hg := (HPA.out.rin.blk).keeps (X := nobody) hSw (fun h => h); have q1 : W.cell? ⟨gr, 1, none⟩ = some (.slice A8 ap.length c8) := hg.cell 1; have gl := hg.lt) | (have hg := (HPB.out.rin.blk).keeps (X := nobody) hSw (fun h => h); have q1 : W.cell? ⟨gr, 1, none⟩ = some (.slice A8 ap.length c8) := hg.cell 1; have gl := hg.lt) | skip)
             go_simp; first | done | rfl)
          try simp only [Act.put, List.setIfInBounds_toArray, List.set_cons_zero, List.set_cons_succ]
          -- 26 Op.move (Operand.tmp 9)
          refine wpMono_take' 26 (v := ?_) rfl (by kernel_rfl) (by kernel_rfl) (by kernel_rfl) (fun _ _ _ h => h) (by rfl) ?_ ?_
          rotate_left
          · (intro W hSw; (first | (have hg := (HPA.out.rin.blk).keeps (X := nobody) hSw (fun h => h); have q1 : W.cell? ⟨gr, 1, none⟩ = some (.slice A8 ap.length c8) := hg.cell 1; have gl := hg.lt) | (have hg := (HPB.out.rin.blk).keeps (X := nobody) hSw (fun h => h); have q1 : W.cell? ⟨gr, 1, none⟩ = some (.slice A8 ap.length c8) := hg.cell 1; have gl := hg.lt) | skip)
             go_simp; first | done | rfl)
          try simp only [Act.put, List.setIfInBounds_toArray, List.set_cons_zero, List.set_cons_succ]
          -- 27 Op.nilCheck (Operand.tmp 131)
          refine wpMono_take' 27 (v := ?_) rfl (by kernel_rfl) (by kernel_rfl) (by kernel_rfl) (fun _ _ _ h => h) (by rfl) ?_ ?_
          rotate_left
          · (intro W hSw; (first | (have hg := (HPA.out.rin.blk).keeps (X := nobody) hSw (fun h => h); have q1 : W.cell? ⟨gr, 1, none⟩ = some (.slice A8 ap.length c8) := hg.cell 1; have gl := hg.lt) | (have hg := (HPB.out.rin.blk).keeps (X := nobody) hSw (fun h => h); have q1 : W.cell? ⟨gr, 1, none⟩ = some (.slice A8 ap.length c8) := hg.cell 1; have gl := hg.lt) | skip)
             go_simp; first | done | rfl)
          try simp only [Act.put, List.setIfInBounds_toArray, List.set_cons_zero, List.set_cons_succ]
          -- 28 Op.fieldAddr 68 (Operand.tmp 132) 1
          refine wpMono_take' 28 (v := ?_) rfl (by kernel_rfl) (by kernel_rfl) (by kernel_rfl) (fun _ _ _ h => h) (by rfl) ?_ ?_
          rotate_left
          · (intro W hSw; (first | (have hg := (HPA.out.rin.blk).keeps (X := nobody) hSw (fun h => h); have q1 : W.cell? ⟨gr, 1, none⟩ = some (.slice A8 ap.length c8) := hg.cell 1; have gl := hg.lt) | (have hg := (HPB.out.rin.blk).keeps (X := nobody) hSw (fun h => h); have q1 : W.cell? ⟨gr, 1, none⟩ = some (.slice A8 ap.length c8) := hg.cell 1; have gl := hg.lt) | skip)
             go_simp; first | done | rfl)
          try simp only [Act.put, List.setIfInBounds_toArray, List.set_cons_zero, List.set_cons_succ]
          -- 29 Op.load 26 (Operand.tmp 133)
          refine wpMono_take' 29 (v := ?_) rfl (by kernel_rfl) (by kernel_rfl) (by kernel_rfl) (fun _ _ _ h => h) (by rfl) ?_ ?_
          rotate_left
          · (intro W hSw; (first | (have hg := (HPA.out.rin.blk).keeps (X := nobody) hSw (fun h => h); have q1 : W.cell? ⟨gr, 1, none⟩ = some (.slice A8 ap.length c8) := hg.cell 1; have gl := hg.lt) | (have hg := (HPB.out.rin.blk).keeps (X := nobody) hSw (fun h => h); have q1 : W.cell? ⟨gr, 1, none⟩ = some (.slice A8 ap.length c8) := hg.cell 1; have gl := hg.lt) | skip)
             go_simp; first | done | rfl)
          try simp only [Act.put, List.setIfInBounds_toArray, List.set_cons_zero, List.set_cons_succ]
          -- EFFECT 25 Op.call { callee := Callee.value (Operand.func 20), args := #[Operand.tmp 129], argTypes := #[38] }
          refine wpMono_one' 25 (by kernel_rfl) rfl (by rfl) (fun K hK => ?_)
          go_simp
          refine (applied_any g1 rg S ap ws va vw w21 HPA.out.inf).mono ?_
          rintro e w22 ⟨v22, rfl, hown22, hb22⟩
          rw [HPA.out.trm] at hown22
          obtain ⟨A9, c9, rfl⟩ := ownsRow_slice hown22
          have HPB := Lib.hid (HPA.out.below hb22)
          have HO22 := Lib.hid hown22
          have HK22 := Lib.hid hb22
          clear hown22 hb22
          refine hK.out _ _ ?_ ?_
          · exact .of_below HK22.out
          clear hK K
          try simp only [Act.put, List.setIfInBounds_toArray, List.set_cons_zero, List.set_cons_succ]
          -- EFFECT 30 Op.call { callee := Callee.value (Operand.func 19), args := #[Operand.tmp 130, Operand.tmp 134], argTypes := #[26, 26] }
          refine wpMono_one' 30 (by kernel_rfl) rfl (by rfl) (fun K hK => ?_)
          go_simp
          have hn8 : Nums w22 w22.heap.size (.slice A8 ap.length c8) ap := by
            obtain ⟨A, c, e, hv⟩ := HPB.out.rin.vec
            exact ⟨A, _, c, e, hv.1, Nat.le_trans hv.2.1 hv.2.2.1, hv.2.2.2.1⟩
          have hn9 : Nums w22 w22.heap.size (.slice A9 ap.length c9) ap := by
            obtain ⟨A, c, e, hv⟩ := Vec.of_own (n := ap.length) (zs := ap) (own_low HO22.out (Nat.zero_le _))
            exact ⟨A, _, c, e, hv.1, Nat.le_trans hv.2.1 hv.2.2.1, hv.2.2.2.1⟩
          refine (same_vec _ _ ap w22 hn9 hn8).mono ?_
          rintro e w23 ⟨rfl, hb23⟩
          have HPC := Lib.hid (HPB.out.below hb23)
          have HK23 := Lib.hid hb23
          clear hb23 hn8 hn9
          refine hK.out _ _ ?_ ?_
          · exact .of_below HK23.out
          clear hK K
          try simp only [Act.put, List.setIfInBounds_toArray, List.set_cons_zero, List.set_cons_succ]
          -- 31 Op.unOp UnOp.not 4 (Operand.tmp 135)
          refine wpMono_take' 31 (v := ?_) rfl (by kernel_rfl) (by kernel_rfl) (by kernel_rfl) (fun _ _ _ h => h) (by rfl) ?_ ?_
          rotate_left
          · (intro W hSw; (first | (have hg := (HPA.out.rin.blk).keeps (X := nobody) hSw (fun h => h); have q1 : W.cell? ⟨gr, 1, none⟩ = some (.slice A8 ap.length c8) := hg.cell 1; have gl := hg.lt) | (have hg := (HPB.out.rin.blk).keeps (X := nobody) hSw (fun h => h); have q1 : W.cell? ⟨gr, 1, none⟩ = some (.slice A8 ap.length c8) := hg.cell 1; have gl := hg.lt) | skip)
             go_simp; first | done | rfl)
          try simp only [Act.put, List.setIfInBounds_toArray, List.set_cons_zero, List.set_cons_succ]
          -- 32 Op.pick (Operand.tmp 128) (Operand.const (Value.bool true)) (Operand.tmp 136)
          refine wpMono_take' 32 (v := ?_) rfl (by kernel_rfl) (by kernel_rfl) (by kernel_rfl) (fun _ _ _ h => h) (by rfl) ?_ ?_
          rotate_left
          · (intro W hSw; (first | (have hg := (HPA.out.rin.blk).keeps (X := nobody) hSw (fun h => h); have q1 : W.cell? ⟨gr, 1, none⟩ = some (.slice A8 ap.length c8) := hg.cell 1; have gl := hg.lt) | (have hg := (HPB.out.rin.blk).keeps (X := nobody) hSw (fun h => h); have q1 : W.cell? ⟨gr, 1, none⟩ = some (.slice A8 ap.length c8) := hg.cell 1; have gl := hg.lt) | skip)
             go_simp; first | done | rfl)
          try simp only [Act.put, List.setIfInBounds_toArray, List.set_cons_zero, List.set_cons_succ]
          -- 33 Op.move (Operand.tmp 137)
          refine wpMono_take' 33 (v := ?_) rfl (by kernel_rfl) (by kernel_rfl) (by kernel_rfl) (fun _ _ _ h => h) (by rfl) ?_ ?_
          rotate_left
          · (intro W hSw; (first | (have hg := (HPA.out.rin.blk).keeps (X := nobody) hSw (fun h => h); have q1 : W.cell? ⟨gr, 1, none⟩ = some (.slice A8 ap.length c8) := hg.cell 1; have gl := hg.lt) | (have hg := (HPB.out.rin.blk).keeps (X := nobody) hSw (fun h => h); have q1 : W.cell? ⟨gr, 1, none⟩ = some (.slice A8 ap.length c8) := hg.cell 1; have gl := hg.lt) | skip)
             go_simp; first | done | rfl)
          try simp only [Act.put, List.setIfInBounds_toArray, List.set_cons_zero, List.set_cons_succ]
          -- 34 Op.move (Operand.tmp 7)
          refine wpMono_take' 34 (v := ?_) rfl (by kernel_rfl) (by kernel_rfl) (by kernel_rfl) (fun _ _ _ h => h) (by rfl) ?_ ?_
          rotate_left
          · (intro W hSw; (first | (have hg := (HPA.out.rin.blk).keeps (X := nobody) hSw (fun h => h); have q1 : W.cell? ⟨gr, 1, none⟩ = some (.slice A8 ap.length c8) := hg.cell 1; have gl := hg.lt) | (have hg := (HPB.out.rin.blk).keeps (X := nobody) hSw (fun h => h); have q1 : W.cell? ⟨gr, 1, none⟩ = some (.slice A8 ap.length c8) := hg.cell 1; have gl := hg.lt) | skip)
             go_simp; first | done | rfl)
          try simp only [Act.put, List.setIfInBounds_toArray, List.set_cons_zero, List.set_cons_succ]
          -- 36 Op.move (Operand.tmp 9)
          refine wpMono_take' 36 (v := ?_) rfl (by kernel_rfl) (by kernel_rfl) (by kernel_rfl) (fun _ _ _ h => h) (by rfl) ?_ ?_
          rotate_left
          · (intro W hSw; (first | (have hg := (HPA.out.rin.blk).keeps (X := nobody) hSw (fun h => h); have q1 : W.cell? ⟨gr, 1, none⟩ = some (.slice A8 ap.length c8) := hg.cell 1; have gl := hg.lt) | (have hg := (HPB.out.rin.blk).keeps (X := nobody) hSw (fun h => h); have q1 : W.cell? ⟨gr, 1, none⟩ = some (.slice A8 ap.length c8) := hg.cell 1; have gl := hg.lt) | skip)
             go_simp; first | done | rfl)
          try simp only [Act.put, List.setIfInBounds_toArray, List.set_cons_zero, List.set_cons_succ]
          -- EFFECT 35 Op.call { callee := Callee.value (Operand.func 15), args := #[Operand.tmp 139], argTypes := #[38] }
          refine wpMono_one' 35 (by kernel_rfl) rfl (by rfl) (fun K hK => ?_)
          go_simp
          refine (waits_any g1 rg S ap ws va vw w23 HPC.out.inf).mono ?_
          rintro e w24 ⟨⟨v24, L4, rfl, hab4, hO4⟩, hb24⟩
          obtain ⟨A10, c10, rfl⟩ := ownsRow_slice hO4.row
          have HPD := Lib.hid (HPC.out.below hb24)
          have HO4 := Lib.hid hO4
          have HAB4 := Lib.hid hab4
          have HK24 := Lib.hid hb24
          clear hab4 hO4 hb24
          refine hK.out _ _ ?_ ?_
          · exact .of_below HK24.out
          clear hK K
          try simp only [Act.put, List.setIfInBounds_toArray, List.set_cons_zero, List.set_cons_succ]
          -- EFFECT 37 Op.call { callee := Callee.value (Operand.func 27), args := #[Operand.tmp 141], argTypes := #[57] }
          refine wpMono_one' 37 (by kernel_rfl) rfl (by rfl) (fun K hK => ?_)
          go_simp
          refine (waits_ref gr rg R ap L _ rl w24 HPD.out.rin HPD.out.dist).mono ?_
          rintro e w25 ⟨v25, L5, rfl, hO5, hp5, hs5, hb25⟩
          obtain ⟨A11, c11, rfl⟩ := ownsRow_slice hO5
          have HPE := Lib.hid (HPD.out.below hb25)
          have HO5 := Lib.hid hO5
          have HP5 := Lib.hid hp5
          have HS5 := Lib.hid hs5
          have HK25 := Lib.hid hb25
          clear hO5 hp5 hs5 hb25
          refine hK.out _ _ ?_ ?_
          · exact .of_below HK25.out
          clear hK K
          try simp only [Act.put, List.setIfInBounds_toArray, List.set_cons_zero, List.set_cons_succ]
          -- EFFECT 38 Op.call { callee := Callee.value (Operand.func 26), args := #[Operand.tmp 140, Operand.tmp 142], argTypes := #[25, 25] }
          refine wpMono_one' 38 (by kernel_rfl) rfl (by rfl) (fun K hK => ?_)
          go_simp
          have hab5 : L4.map Wr.abs = L5.map Wr.abs := by
            rw [HAB4.out]
            exact sorted_one HPL.out.srt.absm HS5.out.absm (HPL.out.prm.trans (HP5.out.map _).symm)
          have hr4 : RW w25 (.slice A10 L4.length c10) L4 := (HO4.out.rw).below HK25.out
          have hr5 : RW w25 (.slice A11 L5.length c11) L5 := (OW.rw (S := fun _ => True) (lo := 0) ⟨own_low HO5.out (Nat.zero_le _), by have := HP5.out.length_eq; have := HPL.out.rin.wfew; omega, fun x hx => HPE.out.rin.num x (HP5.out.subset hx), fun _ _ => trivial, fun _ _ _ _ => trivial⟩)
          refine (same_writes _ _ L4 L5 w25 hr4 hr5 hab5).mono ?_
          rintro e w26 ⟨rfl, hb26⟩
          have HPF := Lib.hid (show PlI w g1 gr rg (k + 1) w26 from ⟨S, R, ap, ws, L, va, vw, _, rl, HPE.out.below hb26, hwn⟩)
          refine hK.out _ _ ?_ ?_
          · exact .of_below hb26
          clear hK K
          try simp only [Act.put, List.setIfInBounds_toArray, List.set_cons_zero, List.set_cons_succ]
          -- 39 Op.unOp UnOp.not 4 (Operand.tmp 143)
          refine wpMono_take' 39 (v := ?_) rfl (by kernel_rfl) (by kernel_rfl) (by kernel_rfl) (fun _ _ _ h => h) (by rfl) ?_ ?_
          rotate_left
          · (intro W hSw; (first | (have hg := (HPA.out.rin.blk).keeps (X := nobody) hSw (fun h => h); have q1 : W.cell? ⟨gr, 1, none⟩ = some (.slice A8 ap.length c8) := hg.cell 1; have gl := hg.lt) | (have hg := (HPB.out.rin.blk).keeps (X := nobody) hSw (fun h => h); have q1 : W.cell? ⟨gr, 1, none⟩ = some (.slice A8 ap.length c8) := hg.cell 1; have gl := hg.lt) | skip)
             go_simp; first | done | rfl)
          try simp only [Act.put, List.setIfInBounds_toArray, List.set_cons_zero, List.set_cons_succ]
          -- 40 Op.pick (Operand.tmp 138) (Operand.const (Value.bool true)) (Operand.tmp 144)
          refine wpMono_take' 40 (v := ?_) rfl (by kernel_rfl) (by kernel_rfl) (by kernel_rfl) (fun _ _ _ h => h) (by rfl) ?_ ?_
          rotate_left
          · (intro W hSw; (first | (have hg := (HPA.out.rin.blk).keeps (X := nobody) hSw (fun h => h); have q1 : W.cell? ⟨gr, 1, none⟩ = some (.slice A8 ap.length c8) := hg.cell 1; have gl := hg.lt) | (have hg := (HPB.out.rin.blk).keeps (X := nobody) hSw (fun h => h); have q1 : W.cell? ⟨gr, 1, none⟩ = some (.slice A8 ap.length c8) := hg.cell 1; have gl := hg.lt) | skip)
             go_simp; first | done | rfl)
          try simp only [Act.put, List.setIfInBounds_toArray, List.set_cons_zero, List.set_cons_succ]
          refine wpMono_done (by kernel_rfl) ?_ _
          go_wp2_with fail
          go_roundw
          case rel => exact ⟨k + 1, g1, by omega, by go_num, rfl, HPF.out⟩
          case measure => (simp [intOf]; try omega)
    · have HBL := Lib.hid (show Below w.heap.size w wr from by obtain ⟨S, R, ap, ws, L, va, vw, ra, rl, hpl, _⟩ := hpi; exact hpl.bel)
      clear hpi
      go_wp2_with fail
      go_ret
      exact ⟨rfl, HBL.out⟩
end Go.Proofs.Ytedkcpncomgboaa.wDepPlays
