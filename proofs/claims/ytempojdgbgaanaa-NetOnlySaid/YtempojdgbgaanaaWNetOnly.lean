/- The walk of the law NetOnly. -/
import Derived.Test.YtempojdgbgaanaaSent
import Derived.LoopTactic
import Derived.LoopN
import Derived.OwnWalk
namespace Go.Proofs.Ytempojdgbgaanaa.wNetOnly
open Go.RowKit Go.Proofs.Ytempojdgbgaanaa.base Go.Proofs.Ytempojdgbgaanaa.net Go.Proofs.Ytempojdgbgaanaa.state Go.Proofs.Ytempojdgbgaanaa.at_ Go.Proofs.Ytempojdgbgaanaa.send Go.Proofs.Ytempojdgbgaanaa.take Go.Proofs.Ytempojdgbgaanaa.double Go.Proofs.Ytempojdgbgaanaa.awake Go.Proofs.Ytempojdgbgaanaa.own Go.Proofs.Ytempojdgbgaanaa.wNetNone Go.Proofs.Ytempojdgbgaanaa.args Go.Proofs.Ytempojdgbgaanaa.sent

def Z0 : W2 → Bool := fun _ => false
theorem toList_inj {a b : ByteArray} (h : a.toList = b.toList) : a = b := by
  rw [ByteArray.toList_eq, ByteArray.toList_eq] at h
  obtain ⟨⟨x⟩⟩ := a
  obtain ⟨⟨y⟩⟩ := b
  simp at h
  simp [h]
theorem up {w : World} {B g bb cb k k' : Nat} {S : Nat → Prop} {n : Int} {F : W2 → List ByteArray} {C : W2 → Bool} (h : NetO w B S g bb cb k n F C) (hk : k ≤ k') : NetO w B S g bb cb k' n F C :=
  ⟨NetS.more h.net hk, h.own, h.hg, h.hb, h.hc, h.fits⟩
set_option maxRecDepth 100000 in
set_option maxHeartbeats 6400000 in
theorem walk (v0 : Value) (w : World) (a0 : Arg Try.prog w 22 v0) :
    Calls Try.prog 3 #[v0] w fun e w' => e = .returned (.bool true) ∧ Below w.heap.size w w' := by
  obtain ⟨A, len, cap, l, rfl, hT⟩ := ops_arg a0
  obtain ⟨i0, hi0, hz0, hz1, hz2⟩ := info_parts op_info
  have hlc := hT.2.1
  have hcm := hT.2.2.1
  unfold maxLen at hcm
  clear a0
  have HT := Lib.hid hT
  clear hT
  go_enter Try.func3, Try.ntmps3
  go_wp2_with fail
  refine (awake_yes _).mono ?_
  rintro e w1 ⟨rfl, hb1⟩
  have Hb1 := Lib.hid hb1
  clear hb1
  go_wp2_with fail
  refine (new_o 16 _ (by omega) (by omega)).mono ?_
  rintro e w2 ⟨g, bb, cb, rfl, h2, hb2⟩
  have H2 := Lib.hid h2
  have Hb2 := Lib.hid (below_step Hb1.out hb2)
  clear h2 hb2
  go_wp2
  go_loopw [5, 6, 7, 8, 9, 10, 12, 41, 55, 72, 100, 110] (fun sv ci _ _ _ _ _ _ _ _ _ _ wr => ∃ i : Nat, i ≤ len ∧ i ≤ 300 ∧ ci = .int .i64 i ∧ ∃ S F A n c L, sv = .slice A n c ∧ n ≤ i ∧ NetO wr w1.heap.size S g bb cb i 16 F Z0 ∧ Sent wr w1.heap.size S bb cb A n c L ∧ Inv F L ∧ Below w.heap.size w wr) (fun _ ci _ _ _ _ _ _ _ _ _ _ _ => 300 - (intOf ci).toNat)
  case atStart => exact ⟨0, by omega, by omega, rfl, nobody, _, none, 0, 0, [], rfl, by omega, H2.out, Sent.nil, inv_none, Hb2.out⟩
  case round =>
    obtain ⟨i, hi, hi3, rfl, S, F, A', n, c, L, rfl, hn, hN, hS, hI, hbw⟩ := hrel
    have h3' : decide ((i : Int) < 300) = decide (i < 300) := decide_eq_decide.2 (by omega)
    have hl' : decide ((i : Int) < (len : Int)) = decide (i < len) := decide_eq_decide.2 (by omega)
    by_cases hlt : i < len
    · by_cases h3 : i < 300
      · obtain ⟨ob, off, rfl, hob⟩ := HT.out.at_some (by omega)
        obtain ⟨o, ho⟩ := HT.out.get hlt
        obtain ⟨ok1, ok2, _⟩ := HT.out.2.2.2.2 o (List.mem_of_getElem? ho)
        obtain ⟨c0, c1, c2, c3, c4⟩ := (HT.out.below hbw).cell hlt ho
        have hob2 : ob < wr.heap.size := by have := hbw.size; omega
        obtain ⟨k, a, b, x, s⟩ := o
        dsimp only at c0 c1 c2 c3 c4 ok1 ok2
        have hok : okW (a, b) := ⟨ok1, ok2⟩
        have hbo := below_new wr (.cells #[.int .i64 k, .int .i64 a, .int .i64 b, .int .i64 x, .string s] 30)
        have hO := Blk.new wr 30 #[.int .i64 k, .int .i64 a, .int .i64 b, .int .i64 x, .string s]
        have hnS : ¬ S wr.heap.size := fun h => by have := (hN.own _ h).2; omega
        have hnb : wr.heap.size ≠ bb ∧ wr.heap.size ≠ cb := by
          obtain ⟨m, m1, _⟩ := hN.net.bags
          obtain ⟨mc, mc1, _⟩ := hN.net.cuts
          have := m1.lt
          have := mc1.lt
          omega
        have hnO : some wr.heap.size ≠ (Value.slice A' n c).ownBlock := fun h => by have := (hS.apart _ h.symm).1; omega
        have HnO := Lib.hid hnO
        have hN2 := hN.below hbo
        have hS2 := hS.below hbo
        have hbw2 := below_alloc hbw (.cells #[.int .i64 k, .int .i64 a, .int .i64 b, .int .i64 x, .string s] 30)
        have HO := Lib.hid hO
        have HN := Lib.hid hN2
        have HS := Lib.hid hS2
        have HI := Lib.hid hI
        have Hbw := Lib.hid hbw2
        have HnS := Lib.hid hnS
        have Hnb := Lib.hid hnb
        have Hok := Lib.hid hok
        clear hnO hO hN hN2 hS hS2 hI hbw hbw2 hbo hnS hnb hok ok1 ok2 ho
        by_cases hsz : s.size ≤ 1000
        · have hd : decide (1000 < (s.size : Int)) = false := by simp; omega
          by_cases hk0 : k = 0
          · subst hk0
            go_wp2_with fail
            refine (send_o w1.heap.size S g bb cb i 16 a b F Z0 s _ HN.out Hok.out (by omega)).mono ?_
            rintro e wx ⟨rfl, h3⟩
            cases hs : sendB 16 F Z0 (a, b)
            · have HIx := Lib.hid HI.out
              unfold sendF at h3
              rw [hs, if_neg (by simp)] at h3
              clear hs
              -- h3 : NetR .. , $w the world behind it, F its bags
              have hb3 := Hbw.out.trans ((NetR.below HN.out h3).mono Hb1.out.size)
              obtain ⟨Sx, hNx, hSx, hKx⟩ := h3
              have HNx := Lib.hid hNx
              have HSx := Lib.hid (HS.out.net hSx hKx)
              have HOx := Lib.hid (HO.out.keeps hKx (fun h => h.elim HnS.out (fun h => h.elim Hnb.out.1 Hnb.out.2)))
              have Hbx := Lib.hid hb3
              clear hNx hSx hKx hb3
              generalize F = Fx at *
              obtain ⟨Ax, rfl⟩ : ∃ Ax, Ax = A' := ⟨_, rfl⟩
              obtain ⟨nx, rfl⟩ : ∃ nx, nx = n := ⟨_, rfl⟩
              obtain ⟨cx, rfl⟩ : ∃ cx, cx = c := ⟨_, rfl⟩
              obtain ⟨Lx, rfl⟩ : ∃ Lx, Lx = L := ⟨_, rfl⟩
              -- H*: the state behind the call, of world $w
              have hfit := HNx.out.fits (a, b)
              have hlenx : decide (64 < ((Fx (a, b)).length : Int)) = false := by simp; omega
              have q1 : wx.cell? ⟨wr.heap.size, 1, none⟩ = some (.int .i64 a) := HOx.out.cell 1
              have q2 : wx.cell? ⟨wr.heap.size, 2, none⟩ = some (.int .i64 b) := HOx.out.cell 2
              have q3 := HOx.out.lt
              try (clear HN HS HI HO Hbw)
              go_wp2_with fail
              refine (count_o w1.heap.size Sx g bb cb (i + 1) 16 a b Fx Z0 _ HNx.out Hok.out).mono ?_
              rintro e w9 ⟨rfl, rfl⟩
              by_cases hab : a = b
              · subst hab
                have hz : (Fx (a, a)).length = 0 := by rw [HIx.out.2 (a, a) (by simp [isW])]; rfl
                rw [hz]
                have Hz := Lib.hid hz
                clear hz hlenx
                go_wp2_with fail
                refine (count_o w1.heap.size Sx g bb cb (i + 1) 16 a a Fx Z0 _ HNx.out Hok.out).mono ?_
                rintro e w10 ⟨rfl, rfl⟩
                rw [Hz.out]
                go_wp2
                go_roundw
                case rel => exact ⟨i + 1, by omega, by omega, by go_num, Sx, Fx, Ax, nx, cx, Lx, rfl, by omega, HNx.out, HSx.out, HIx.out, Hbx.out⟩
                case measure => simp [intOf]; omega
              · go_wp2
                go_roundw
                case rel => exact ⟨i + 1, by omega, by omega, by go_num, Sx, Fx, Ax, nx, cx, Lx, rfl, by omega, HNx.out, HSx.out, HIx.out, Hbx.out⟩
                case measure => simp [intOf]; omega
            · have HIs := Lib.hid (inv_send (o := ⟨0, a, b, x, s⟩) HI.out hs)
              clear hs
              have hb3 := Hbw.out.trans ((NetR.below HN.out h3).mono Hb1.out.size)
              obtain ⟨Sx, hNx, hSx, hKx⟩ := h3
              have HNy := Lib.hid hNx
              have HSy := Lib.hid (HS.out.net hSx hKx)
              have hOx := HO.out.keeps hKx (fun h => h.elim HnS.out (fun h => h.elim Hnb.out.1 Hnb.out.2))
              have HOy := Lib.hid hOx
              have Hby := Lib.hid hb3
              have f0 : wx.cell? ⟨wr.heap.size, 0, none⟩ = _ := hOx.cell 0
              have f1 : wx.cell? ⟨wr.heap.size, 1, none⟩ = _ := hOx.cell 1
              have f2 : wx.cell? ⟨wr.heap.size, 2, none⟩ = _ := hOx.cell 2
              have f3 : wx.cell? ⟨wr.heap.size, 3, none⟩ = _ := hOx.cell 3
              have f4 : wx.cell? ⟨wr.heap.size, 4, none⟩ = _ := hOx.cell 4
              have f5 := hOx.lt
              simp at f0 f1 f2 f3 f4
              clear hNx hSx hKx hb3 hOx
              go_wp2_with (at_builtin; refine wpList_append_new rfl (.tmp 51) (.tmp 53) _ rfl w1.heap.size 30 i0 _ 5 48 Try.underlying22 hi0 hz0 hz1 hz2 rfl (by decide) _ _ _ rfl HSy.out.own 1 1 [.int .i64 0, .int .i64 a, .int .i64 b, .int .i64 x, .string s] rfl rfl (by simp [Value.oneCell']) (by unfold maxLen; omega) (by omega) (by have := HNy.out.size; omega) ?_; intro v1 w4 hown1 hbw1 hgr1 hwh1; obtain ⟨Ax, cx, rfl, hSx, hNx⟩ := Sent.more HSy.out HNy.out (o := ⟨0, a, b, x, s⟩) hown1 hgr1 hwh1; have hOx := HOy.out.grown hgr1 HnO.out; have HNx := Lib.hid hNx; have HSx := Lib.hid hSx; have HOx := Lib.hid hOx; have Hbx := Lib.hid (Hby.out.trans (hbw1.mono Hb1.out.size)); have q1 : w4.cell? ⟨wr.heap.size, 1, none⟩ = some (.int .i64 a) := hOx.cell 1; have q2 : w4.cell? ⟨wr.heap.size, 2, none⟩ = some (.int .i64 b) := hOx.cell 2; have q3 := hOx.lt; clear hown1 hbw1 hgr1 hwh1 hSx hNx hOx HSy HNy HOy Hby f0 f1 f2 f3 f4 f5)
              have HIx := HIs
              generalize hLx : L ++ [(⟨0, a, b, x, s⟩ : O)] = Lx at *
              generalize sendF 16 F Z0 (a, b) s = Fx at *
              generalize hnx : n + 1 = nx at *
              clear q1 q2 q3
              -- H*: the state behind the call, of world $w
              have hfit := HNx.out.fits (a, b)
              have hlenx : decide (64 < ((Fx (a, b)).length : Int)) = false := by simp; omega
              have q1 : w4.cell? ⟨wr.heap.size, 1, none⟩ = some (.int .i64 a) := HOx.out.cell 1
              have q2 : w4.cell? ⟨wr.heap.size, 2, none⟩ = some (.int .i64 b) := HOx.out.cell 2
              have q3 := HOx.out.lt
              try (clear HN HS HI HO Hbw)
              go_wp2_with fail
              refine (count_o w1.heap.size Sx g bb cb (i + 1) 16 a b Fx Z0 _ HNx.out Hok.out).mono ?_
              rintro e w9 ⟨rfl, rfl⟩
              by_cases hab : a = b
              · subst hab
                have hz : (Fx (a, a)).length = 0 := by rw [HIx.out.2 (a, a) (by simp [isW])]; rfl
                rw [hz]
                have Hz := Lib.hid hz
                clear hz hlenx
                go_wp2_with fail
                refine (count_o w1.heap.size Sx g bb cb (i + 1) 16 a a Fx Z0 _ HNx.out Hok.out).mono ?_
                rintro e w10 ⟨rfl, rfl⟩
                rw [Hz.out]
                go_wp2
                go_roundw
                case rel => exact ⟨i + 1, by omega, by omega, by go_num, Sx, Fx, Ax, nx, cx, Lx, rfl, by omega, HNx.out, HSx.out, HIx.out, Hbx.out⟩
                case measure => simp [intOf]; omega
              · go_wp2
                go_roundw
                case rel => exact ⟨i + 1, by omega, by omega, by go_num, Sx, Fx, Ax, nx, cx, Lx, rfl, by omega, HNx.out, HSx.out, HIx.out, Hbx.out⟩
                case measure => simp [intOf]; omega
          · by_cases hk1 : k = 1
            · subst hk1
              go_wp2_with fail
              refine (take_o w1.heap.size S g bb cb i 16 a b x F Z0 _ HN.out Hok.out).mono ?_
              rintro e wx ⟨rfl, h3⟩
              have Hfa := Lib.hid (fnd_all (C := Z0) HI.out a b x)
              have HIx := Lib.hid (inv_take (C := Z0) (x := (a, b)) (i := x) HI.out)
              -- h3 : NetR .. , $w the world behind it, (takeF 16 F Z0 (a, b) x) its bags
              have hb3 := Hbw.out.trans ((NetR.below HN.out h3).mono Hb1.out.size)
              obtain ⟨Sx, hNx, hSx, hKx⟩ := h3
              have HNx := Lib.hid hNx
              have HSx := Lib.hid (HS.out.net hSx hKx)
              have HOx := Lib.hid (HO.out.keeps hKx (fun h => h.elim HnS.out (fun h => h.elim Hnb.out.1 Hnb.out.2)))
              have Hbx := Lib.hid hb3
              clear hNx hSx hKx hb3
              generalize (takeF 16 F Z0 (a, b) x) = Fx at *
              obtain ⟨Ax, rfl⟩ : ∃ Ax, Ax = A' := ⟨_, rfl⟩
              obtain ⟨nx, rfl⟩ : ∃ nx, nx = n := ⟨_, rfl⟩
              obtain ⟨cx, rfl⟩ : ∃ cx, cx = c := ⟨_, rfl⟩
              obtain ⟨Lx, rfl⟩ : ∃ Lx, Lx = L := ⟨_, rfl⟩
              generalize takeB 16 F Z0 (a, b) = tb at *
              generalize (if tb = true then msg F (a, b) x else ⟨#[]⟩) = ts at *
              clear HN HS HI HO Hbw HnO HnS
              obtain ⟨wo, rfl⟩ : ∃ wo : World, wo = wr := ⟨_, rfl⟩
              go_wp2
              go_loopw [10, 12, 72] (fun fv _ jv wr => ∃ j : Nat, j ≤ nx ∧ jv = .int .i64 j ∧ fv = .bool (fnd tb a b ts (Lx.take j)) ∧ Below wx.heap.size wx wr) (fun _ _ jv _ => nx - (intOf jv).toNat)
              case atStart => exact ⟨0, by omega, rfl, by simp [fnd], .refl _ _⟩
              case round =>
                obtain ⟨j, hj, rfl, rfl, hbq⟩ := hrel
                have hO2 := HOx.out.below hbq HOx.out.lt
                have f1 : wr.cell? ⟨wo.heap.size, 1, none⟩ = some (.int .i64 a) := hO2.cell 1
                have f2 : wr.cell? ⟨wo.heap.size, 2, none⟩ = some (.int .i64 b) := hO2.cell 2
                have f3 : wr.cell? ⟨wo.heap.size, 3, none⟩ = some (.int .i64 x) := hO2.cell 3
                have f4 : wr.cell? ⟨wo.heap.size, 4, none⟩ = some (.string s) := hO2.cell 4
                have f5 := hO2.lt
                have hlj : decide ((j : Int) < (nx : Int)) = decide (j < nx) := decide_eq_decide.2 (by omega)
                by_cases hjn : j < nx
                · have hrow := Reads.of_own (own_below HSx.out.own hbq)
                  obtain ⟨sb, soff, rfl, hsb⟩ := hrow.at_some (by omega)
                  obtain ⟨p, hp⟩ : ∃ p, Lx[j]? = some p := ⟨Lx[j]'(by rw [HSx.out.len]; exact hjn), List.getElem?_eq_getElem _⟩
                  have g0 := hrow.thing oc oc_len hjn hp 0 (by omega)
                  have g1 := hrow.thing oc oc_len hjn hp 1 (by omega)
                  have g2 := hrow.thing oc oc_len hjn hp 2 (by omega)
                  have g3 := hrow.thing oc oc_len hjn hp 3 (by omega)
                  have g4 := hrow.thing oc oc_len hjn hp 4 (by omega)
                  have hst := fnd_step tb a b ts hp
                  obtain ⟨pk, pa, pb, pi, ps⟩ := p
                  simp [oc] at g0 g1 g2 g3 g4
                  have hbq2 := below_alloc hbq (.cells #[.int .i64 pk, .int .i64 pa, .int .i64 pb, .int .i64 pi, .string ps] 30)
                  have Hbq := Lib.hid hbq2
                  have Hst := Lib.hid hst
                  clear hrow hp hbq hbq2 hst hO2
                  cases hf : fnd tb a b ts (Lx.take j)
                  · by_cases e1 : pa = a
                    · by_cases e2 : pb = b
                      · by_cases e3 : ps = ts
                        · go_wp2
                          go_roundw
                          case rel => exact ⟨j + 1, by omega, by go_num, by rw [Hst.out, hf]; simp [sent.mt, e1, e2, e3], by have h := Hbq.out; first | exact h | (simp only [e1, e2, e3] at h; exact h)⟩
                          case measure => simp [intOf]; omega
                        · have hne : ¬ ps.toList = ts.toList := fun h => e3 (toList_inj h)
                          go_wp2
                          go_roundw
                          case rel => exact ⟨j + 1, by omega, by go_num, by rw [Hst.out, hf]; simp [sent.mt, e1, e2, e3, hne], by have h := Hbq.out; first | exact h | (simp only [e1, e2] at h; exact h)⟩
                          case measure => simp [intOf]; omega
                      · go_wp2
                        go_roundw
                        case rel => exact ⟨j + 1, by omega, by go_num, by rw [Hst.out, hf]; simp [sent.mt, e1, e2], by have h := Hbq.out; first | exact h | (simp only [e1] at h; exact h)⟩
                        case measure => simp [intOf]; omega
                    · go_wp2
                      go_roundw
                      case rel => exact ⟨j + 1, by omega, by go_num, by rw [Hst.out, hf]; simp [sent.mt, e1], by have h := Hbq.out; first | exact h | (simp only [e1] at h; exact h)⟩
                      case measure => simp [intOf]; omega
                  · go_wp2
                    go_roundw
                    case rel => exact ⟨j + 1, by omega, by go_num, by rw [Hst.out, hf]; simp [], by have h := Hbq.out; first | exact h | (simp only [hf] at h; exact h)⟩
                    case measure => simp [intOf]; omega
                · obtain rfl : j = nx := by omega
                  have hfd : fnd tb a b ts (Lx.take j) = true := by rw [List.take_of_length_le (by rw [HSx.out.len]; exact Nat.le_refl _)]; exact Hfa.out
                  rw [hfd]
                  have HNx := Lib.hid (HNx.out.below hbq)
                  have HSx := Lib.hid (HSx.out.below hbq)
                  have HOx := Lib.hid hO2
                  have Hbx := Lib.hid (below_step Hbx.out hbq)
                  obtain ⟨nx, rfl⟩ : ∃ nx, nx = j := ⟨_, rfl⟩
                  clear hfd hbq hO2 f1 f2 f3 f4
                  -- H*: the state behind the call, of world $w
                  have hfit := HNx.out.fits (a, b)
                  have hlenx : decide (64 < ((Fx (a, b)).length : Int)) = false := by simp; omega
                  have q1 : wr.cell? ⟨wo.heap.size, 1, none⟩ = some (.int .i64 a) := HOx.out.cell 1
                  have q2 : wr.cell? ⟨wo.heap.size, 2, none⟩ = some (.int .i64 b) := HOx.out.cell 2
                  have q3 := HOx.out.lt
                  try (clear HN HS HI HO Hbw)
                  go_wp2_with fail
                  refine (count_o w1.heap.size Sx g bb cb (i + 1) 16 a b Fx Z0 _ HNx.out Hok.out).mono ?_
                  rintro e w9 ⟨rfl, rfl⟩
                  by_cases hab : a = b
                  · subst hab
                    have hz : (Fx (a, a)).length = 0 := by rw [HIx.out.2 (a, a) (by simp [isW])]; rfl
                    rw [hz]
                    have Hz := Lib.hid hz
                    clear hz hlenx
                    go_wp2_with fail
                    refine (count_o w1.heap.size Sx g bb cb (i + 1) 16 a a Fx Z0 _ HNx.out Hok.out).mono ?_
                    rintro e w10 ⟨rfl, rfl⟩
                    rw [Hz.out]
                    go_wp2
                    go_roundw
                    case rel => exact ⟨i + 1, by omega, by omega, by go_num, Sx, Fx, Ax, nx, cx, Lx, rfl, by omega, HNx.out, HSx.out, HIx.out, Hbx.out⟩
                    case measure => simp [intOf]; omega
                  · go_wp2
                    go_roundw
                    case rel => exact ⟨i + 1, by omega, by omega, by go_num, Sx, Fx, Ax, nx, cx, Lx, rfl, by omega, HNx.out, HSx.out, HIx.out, Hbx.out⟩
                    case measure => simp [intOf]; omega
            · by_cases hk2 : k = 2
              · subst hk2
                go_wp2_with fail
                refine (drop_o w1.heap.size S g bb cb i 16 a b x F Z0 _ HN.out Hok.out).mono ?_
                rintro e wx ⟨rfl, h3⟩
                have HIx := Lib.hid (inv_drop (x := (a, b)) (i := x) HI.out)
                -- h3 : NetR .. , $w the world behind it, (dropF 16 F (a, b) x) its bags
                have hb3 := Hbw.out.trans ((NetR.below HN.out h3).mono Hb1.out.size)
                obtain ⟨Sx, hNx, hSx, hKx⟩ := h3
                have HNx := Lib.hid hNx
                have HSx := Lib.hid (HS.out.net hSx hKx)
                have HOx := Lib.hid (HO.out.keeps hKx (fun h => h.elim HnS.out (fun h => h.elim Hnb.out.1 Hnb.out.2)))
                have Hbx := Lib.hid hb3
                clear hNx hSx hKx hb3
                generalize (dropF 16 F (a, b) x) = Fx at *
                obtain ⟨Ax, rfl⟩ : ∃ Ax, Ax = A' := ⟨_, rfl⟩
                obtain ⟨nx, rfl⟩ : ∃ nx, nx = n := ⟨_, rfl⟩
                obtain ⟨cx, rfl⟩ : ∃ cx, cx = c := ⟨_, rfl⟩
                obtain ⟨Lx, rfl⟩ : ∃ Lx, Lx = L := ⟨_, rfl⟩
                -- H*: the state behind the call, of world $w
                have hfit := HNx.out.fits (a, b)
                have hlenx : decide (64 < ((Fx (a, b)).length : Int)) = false := by simp; omega
                have q1 : wx.cell? ⟨wr.heap.size, 1, none⟩ = some (.int .i64 a) := HOx.out.cell 1
                have q2 : wx.cell? ⟨wr.heap.size, 2, none⟩ = some (.int .i64 b) := HOx.out.cell 2
                have q3 := HOx.out.lt
                try (clear HN HS HI HO Hbw)
                go_wp2_with fail
                refine (count_o w1.heap.size Sx g bb cb (i + 1) 16 a b Fx Z0 _ HNx.out Hok.out).mono ?_
                rintro e w9 ⟨rfl, rfl⟩
                by_cases hab : a = b
                · subst hab
                  have hz : (Fx (a, a)).length = 0 := by rw [HIx.out.2 (a, a) (by simp [isW])]; rfl
                  rw [hz]
                  have Hz := Lib.hid hz
                  clear hz hlenx
                  go_wp2_with fail
                  refine (count_o w1.heap.size Sx g bb cb (i + 1) 16 a a Fx Z0 _ HNx.out Hok.out).mono ?_
                  rintro e w10 ⟨rfl, rfl⟩
                  rw [Hz.out]
                  go_wp2
                  go_roundw
                  case rel => exact ⟨i + 1, by omega, by omega, by go_num, Sx, Fx, Ax, nx, cx, Lx, rfl, by omega, HNx.out, HSx.out, HIx.out, Hbx.out⟩
                  case measure => simp [intOf]; omega
                · go_wp2
                  go_roundw
                  case rel => exact ⟨i + 1, by omega, by omega, by go_num, Sx, Fx, Ax, nx, cx, Lx, rfl, by omega, HNx.out, HSx.out, HIx.out, Hbx.out⟩
                  case measure => simp [intOf]; omega
              · by_cases hk3 : k = 3
                · subst hk3
                  go_wp2_with fail
                  refine (double_o w1.heap.size S g bb cb i 16 a b x F Z0 _ HN.out Hok.out (by omega)).mono ?_
                  rintro e wx ⟨rfl, h3⟩
                  have HIx := Lib.hid (inv_double (x := (a, b)) (i := x) HI.out)
                  -- h3 : NetR .. , $w the world behind it, (doubleF 16 F (a, b) x) its bags
                  have hb3 := Hbw.out.trans ((NetR.below HN.out h3).mono Hb1.out.size)
                  obtain ⟨Sx, hNx, hSx, hKx⟩ := h3
                  have HNx := Lib.hid hNx
                  have HSx := Lib.hid (HS.out.net hSx hKx)
                  have HOx := Lib.hid (HO.out.keeps hKx (fun h => h.elim HnS.out (fun h => h.elim Hnb.out.1 Hnb.out.2)))
                  have Hbx := Lib.hid hb3
                  clear hNx hSx hKx hb3
                  generalize (doubleF 16 F (a, b) x) = Fx at *
                  obtain ⟨Ax, rfl⟩ : ∃ Ax, Ax = A' := ⟨_, rfl⟩
                  obtain ⟨nx, rfl⟩ : ∃ nx, nx = n := ⟨_, rfl⟩
                  obtain ⟨cx, rfl⟩ : ∃ cx, cx = c := ⟨_, rfl⟩
                  obtain ⟨Lx, rfl⟩ : ∃ Lx, Lx = L := ⟨_, rfl⟩
                  -- H*: the state behind the call, of world $w
                  have hfit := HNx.out.fits (a, b)
                  have hlenx : decide (64 < ((Fx (a, b)).length : Int)) = false := by simp; omega
                  have q1 : wx.cell? ⟨wr.heap.size, 1, none⟩ = some (.int .i64 a) := HOx.out.cell 1
                  have q2 : wx.cell? ⟨wr.heap.size, 2, none⟩ = some (.int .i64 b) := HOx.out.cell 2
                  have q3 := HOx.out.lt
                  try (clear HN HS HI HO Hbw)
                  go_wp2_with fail
                  refine (count_o w1.heap.size Sx g bb cb (i + 1) 16 a b Fx Z0 _ HNx.out Hok.out).mono ?_
                  rintro e w9 ⟨rfl, rfl⟩
                  by_cases hab : a = b
                  · subst hab
                    have hz : (Fx (a, a)).length = 0 := by rw [HIx.out.2 (a, a) (by simp [isW])]; rfl
                    rw [hz]
                    have Hz := Lib.hid hz
                    clear hz hlenx
                    go_wp2_with fail
                    refine (count_o w1.heap.size Sx g bb cb (i + 1) 16 a a Fx Z0 _ HNx.out Hok.out).mono ?_
                    rintro e w10 ⟨rfl, rfl⟩
                    rw [Hz.out]
                    go_wp2
                    go_roundw
                    case rel => exact ⟨i + 1, by omega, by omega, by go_num, Sx, Fx, Ax, nx, cx, Lx, rfl, by omega, HNx.out, HSx.out, HIx.out, Hbx.out⟩
                    case measure => simp [intOf]; omega
                  · go_wp2
                    go_roundw
                    case rel => exact ⟨i + 1, by omega, by omega, by go_num, Sx, Fx, Ax, nx, cx, Lx, rfl, by omega, HNx.out, HSx.out, HIx.out, Hbx.out⟩
                    case measure => simp [intOf]; omega
                · have HNx := Lib.hid (up HN.out (Nat.le_succ i))
                  have HSx := HS
                  have HOx := HO
                  have HIx := HI
                  have Hbx := Hbw
                  obtain ⟨Sx, rfl⟩ : ∃ Sx, Sx = S := ⟨_, rfl⟩
                  obtain ⟨Fx, rfl⟩ : ∃ Fx, Fx = F := ⟨_, rfl⟩
                  obtain ⟨Ax, rfl⟩ : ∃ Ax, Ax = A' := ⟨_, rfl⟩
                  obtain ⟨nx, rfl⟩ : ∃ nx, nx = n := ⟨_, rfl⟩
                  obtain ⟨cx, rfl⟩ : ∃ cx, cx = c := ⟨_, rfl⟩
                  obtain ⟨Lx, rfl⟩ : ∃ Lx, Lx = L := ⟨_, rfl⟩
                  -- H*: the state behind the call, of world $w
                  have hfit := HNx.out.fits (a, b)
                  have hlenx : decide (64 < ((Fx (a, b)).length : Int)) = false := by simp; omega
                  have q1 : (wr.alloc (.cells #[.int .i64 k, .int .i64 a, .int .i64 b, .int .i64 x, .string s] 30)).cell? ⟨wr.heap.size, 1, none⟩ = some (.int .i64 a) := HOx.out.cell 1
                  have q2 : (wr.alloc (.cells #[.int .i64 k, .int .i64 a, .int .i64 b, .int .i64 x, .string s] 30)).cell? ⟨wr.heap.size, 2, none⟩ = some (.int .i64 b) := HOx.out.cell 2
                  have q3 := HOx.out.lt
                  try (clear HN HS HI HO Hbw)
                  go_wp2_with fail
                  refine (count_o w1.heap.size Sx g bb cb (i + 1) 16 a b Fx Z0 _ HNx.out Hok.out).mono ?_
                  rintro e w9 ⟨rfl, rfl⟩
                  by_cases hab : a = b
                  · subst hab
                    have hz : (Fx (a, a)).length = 0 := by rw [HIx.out.2 (a, a) (by simp [isW])]; rfl
                    rw [hz]
                    have Hz := Lib.hid hz
                    clear hz hlenx
                    go_wp2_with fail
                    refine (count_o w1.heap.size Sx g bb cb (i + 1) 16 a a Fx Z0 _ HNx.out Hok.out).mono ?_
                    rintro e w10 ⟨rfl, rfl⟩
                    rw [Hz.out]
                    go_wp2
                    go_roundw
                    case rel => exact ⟨i + 1, by omega, by omega, by go_num, Sx, Fx, Ax, nx, cx, Lx, rfl, by omega, HNx.out, HSx.out, HIx.out, Hbx.out⟩
                    case measure => simp [intOf]; omega
                  · go_wp2
                    go_roundw
                    case rel => exact ⟨i + 1, by omega, by omega, by go_num, Sx, Fx, Ax, nx, cx, Lx, rfl, by omega, HNx.out, HSx.out, HIx.out, Hbx.out⟩
                    case measure => simp [intOf]; omega
        · have hd : decide (1000 < (s.size : Int)) = true := by simp; omega
          go_wp2
          go_ret
          exact ⟨rfl, Hbw.out⟩
      · have Hbw := Lib.hid hbw
        clear hN hS hI hbw
        go_wp2
        go_ret
        exact ⟨rfl, Hbw.out⟩
    · have Hbw := Lib.hid hbw
      clear hN hS hI hbw
      go_wp2
      go_ret
      exact ⟨rfl, Hbw.out⟩
end Go.Proofs.Ytempojdgbgaanaa.wNetOnly
