/- The walk of the law EpochPlays. -/
import Derived.Test.YtojmnkcncjconaaAll
namespace Go.Proofs.Ytojmnkcncjconaa.wEpochPlays
open Go.RowKit Go.Proofs.Ytojmnkcncjconaa.base Go.Proofs.Ytojmnkcncjconaa.list Go.Proofs.Ytojmnkcncjconaa.err Go.Proofs.Ytojmnkcncjconaa.tab Go.Proofs.Ytojmnkcncjconaa.new Go.Proofs.Ytojmnkcncjconaa.awake Go.Proofs.Ytojmnkcncjconaa.ops Go.Proofs.Ytojmnkcncjconaa.law Go.Proofs.Ytojmnkcncjconaa.all_ Go.Proofs.Ytojmnkcncjconaa.keys Go.Proofs.Ytojmnkcncjconaa.reft

set_option maxRecDepth 100000 in
set_option maxHeartbeats 6400000 in
theorem walk (v0 : Value) (v1 : Value) (w : World) (a0 : Arg Try.prog w 35 v0) (a1 : Arg Try.prog w 25 v1) :
    Calls Try.prog 6 #[v0, v1] w fun e w' => e = .returned (.bool true) ∧ Below w.heap.size w w' := by
  obtain ⟨A, len, cap, l, rfl, ha⟩ := eps_arg a0
  obtain ⟨A', len', cap', l', rfl, ha'⟩ := ops_arg a1
  clear a0 a1
  obtain ⟨i0, hi, hz0, hz1, hz2⟩ := info_parts ep_info
  have hlc := ha.2.1
  have hcm := ha.2.2.1
  have hlc' := ha'.2.1
  have hcm' := ha'.2.2.1
  unfold maxLen at hcm hcm'
  have Ha := Lib.hid ha
  have Ha' := Lib.hid ha'
  clear ha ha'
  have hcase : 150 < len ∨ (len ≤ 150 ∧ 150 < len') ∨ (len ≤ 150 ∧ len' ≤ 150) := by omega
  rcases hcase with h1 | ⟨h1, h2⟩ | ⟨h1, h2⟩
  · have hd : decide (150 < (len : Int)) = true := by simp; omega
    go_enter Try.func6, Try.ntmps6
    go_wp2_with fail
    refine (awake_any _).mono ?_
    rintro e w1 ⟨rfl, hb1⟩
    have Hb1 := Lib.hid hb1
    clear hb1
    go_wp2
    go_ret
    exact ⟨rfl, Hb1.out⟩
  · have hd : decide (150 < (len : Int)) = false := by simp; omega
    have hd2 : decide (150 < (len' : Int)) = true := by simp; omega
    go_enter Try.func6, Try.ntmps6
    go_wp2_with fail
    refine (awake_any _).mono ?_
    rintro e w1 ⟨rfl, hb1⟩
    have Hb1 := Lib.hid hb1
    clear hb1
    go_wp2
    go_ret
    exact ⟨rfl, Hb1.out⟩
  · have hd : decide (150 < (len : Int)) = false := by simp; omega
    have hd2 : decide (150 < (len' : Int)) = false := by simp; omega
    go_enter Try.func6, Try.ntmps6
    go_wp2_with fail
    refine (awake_any _).mono ?_
    rintro e w1 ⟨rfl, hb1⟩
    have Hb1 := Lib.hid hb1
    clear hb1
    go_wp2
    go_loopw [6, 33] (fun _ i wr => ∃ k : Nat, k ≤ len ∧ i = .int .i64 k ∧ (∀ j e, j < k → l[j]? = some e → e.u.size ≤ 1000) ∧ Below w.heap.size w wr) (fun _ i _ => len - (intOf i).toNat)
    case atStart => exact ⟨0, by omega, rfl, by omega, Hb1.out⟩
    case round =>
      obtain ⟨k, hk, rfl, hsz, hbw⟩ := hrel
      by_cases hlt : k < len
      · obtain ⟨b, off, rfl, hb⟩ := Ha.out.at_some (by omega)
        obtain ⟨x, hx⟩ := Ha.out.get hlt
        obtain ⟨c0, c1⟩ := (Ha.out.below hbw).cell hlt hx
        have hbw2 := below_alloc hbw (.cells #[.string x.u, .int .i64 x.n] 38)
        by_cases hxs : x.u.size ≤ 1000
        · have hsz2 : ∀ j e, j < k + 1 → l[j]? = some e → e.u.size ≤ 1000 := by
            intro j e hj he
            rcases Nat.lt_or_ge j k with h | h
            · exact hsz j e h he
            · obtain rfl : j = k := by omega
              rw [hx] at he; injection he with he; subst he; exact hxs
          have Hsz := Lib.hid hsz2
          obtain ⟨xu, xn⟩ := x
          dsimp only at c0 c1 hxs hbw2
          have Hbw2 := Lib.hid hbw2
          clear hbw2
          clear hsz hsz2 hx hbw
          go_wp2
          go_roundw
          case rel => exact ⟨k + 1, by omega, by go_num, Hsz.out, Hbw2.out⟩
          case measure => simp [intOf]; omega
        · obtain ⟨xu, xn⟩ := x
          dsimp only at c0 c1 hxs hbw2
          have hd3 : decide (1000 < (xu.size : Int)) = true := by simp; omega
          have Hbw2 := Lib.hid hbw2
          clear hbw2
          clear hsz hx hbw
          go_wp2
          go_ret
          exact ⟨rfl, Hbw2.out⟩
      · have husz : ∀ e ∈ l, e.u.size ≤ 1000000 := by
          intro e he
          obtain ⟨j, hj, rfl⟩ := List.getElem_of_mem he
          have := hsz j l[j] (by rw [Ha.out.1] at hj; omega) (List.getElem?_eq_getElem hj)
          omega
        have Husz := Lib.hid husz
        have hE1 := (Ha.out.below hbw).more hbw.size
        have Hbw := Lib.hid hbw
        have HE1 := Lib.hid hE1
        clear hbw hE1
        clear hsz husz
        go_wp2_with fail
        refine (new_any A len cap l _ HE1.out (by omega) Husz.out).mono ?_
        rintro e w2 (⟨hG, g, b, rfl, hg, hb, hT, hb2⟩ | ⟨hnG, v, rfl, hev, hvn, hb2⟩)
        case inr =>
          have hE2 := (HE1.out.below hb2).more hb2.size
          have hbw2 := below_step Hbw.out hb2
          have HnG := Lib.hid hnG
          have HE2 := Lib.hid hE2
          have Hbw2 := Lib.hid hbw2
          clear hE2 hbw2
          clear hb2 hnG
          obtain ⟨q, rfl⟩ := hev.form
          go_wp2_with fail
          refine (Right_any A len cap l _ HE2.out).mono ?_
          rintro e w3 (⟨hG, _⟩ | ⟨_, rfl, hb3⟩)
          case inl => exact absurd hG HnG.out
          have hev3 := hev.below hb3
          have hbw3 := below_step Hbw2.out hb3
          have Hbw3 := Lib.hid hbw3
          clear hbw3
          clear hb3 hev
          go_wp2_with fail
          refine (is_err _ _ _ _ hev3).mono ?_
          rintro e w4 ⟨rfl, rfl⟩
          go_wp2
          go_ret
          exact ⟨rfl, Hbw3.out⟩
        have hwg : w.heap.size ≤ g := Nat.le_trans Hbw.out.size hg
        have hwb : w.heap.size ≤ b := Nat.le_trans Hbw.out.size hb
        have hE2 := (HE1.out.below hb2).more hb2.size
        have hbw2 := below_step Hbw.out hb2
        have HG := Lib.hid hG
        have HE2 := Lib.hid hE2
        have Hbw2 := Lib.hid hbw2
        have HT := Lib.hid hT
        clear hE2 hbw2 hT
        clear hb2 hG
        go_wp2_with fail
        refine (Right_any A len cap l _ HE2.out).mono ?_
        rintro e w3 (⟨_, rfl, hb3⟩ | ⟨hnG, _⟩)
        case inr => exact absurd HG.out hnG
        have hE3 := (HE2.out.below hb3).more hb3.size
        have hbw3 := below_step Hbw2.out hb3
        have hT3 := HT.out.below hb3
        have hgl := hT3.1.lt
        have hbl := hT3.2.lt
        have hr3 := hE3.2.2.2
        have hones : ∀ u ∈ l.flatMap ep, u.oneCell' = true := by
          intro u hu
          obtain ⟨e, _, he⟩ := List.mem_flatMap.1 hu
          simp [ep] at he
          rcases he with rfl | rfl <;> rfl
        have Hones := Lib.hid hones
        clear hones
        have HE3 := Lib.hid hE3
        have Hbw3 := Lib.hid hbw3
        have HT3 := Lib.hid hT3
        have Hr3 := Lib.hid hr3
        clear hE3 hbw3 hT3 hr3
        clear hb3
        go_wp2_with (at_builtin; refine wpList_append_any _ rfl (.tmp 63) (.tmp 64) _ rfl (w3.heap.size) 38 i0 _ 2 24 Try.underlying35 hi hz0 hz1 hz2 rfl (by omega) (.slice (some ⟨w3.heap.size, 0, none⟩) 0 0) 0 [] rfl (ownsRow_new0 _ _ _ _) w3.heap.size _ len cap (l.flatMap ep) rfl (Hr3.out.alloc (Nat.le_refl _) _) Hones.out (by unfold maxLen; omega) (by omega) (by simp) ?_; intro vx w4 hown4 hg4 _; simp only [Nat.zero_add, List.nil_append] at hown4; obtain ⟨xA, xc, rfl⟩ := ownsRow_slice hown4; have Hown4 := Lib.hid hown4; have Hb4 := Lib.hid (((Below.refl w3.heap.size w3).alloc (Nat.le_refl _) _).grown hg4 (by simp) (by simp [Value.ownBlock])); clear hown4 hg4)
        have hlen : l.length = len := Ha.out.1
        have hRT : RT (w4.alloc (.cells #[.slice xA len xc] 49)) w4.heap.size w3.heap.size xA xc l := by
          refine ⟨by rw [hlen]; exact Blk.new _ _ _, fun e => ?_, by rw [hlen]; exact Hown4.out.alloc _⟩
          rw [hlen] at e
          have := (Hown4.out.lt _ e).2
          omega
        have hT4 := (HT3.out.below Hb4.out).below (below_new w4 (.cells #[.slice xA len xc] 49))
        have hbw4 := below_alloc (below_step Hbw3.out Hb4.out) (.cells #[.slice xA len xc] 49)
        have hs4 := Hb4.out.size
        have hs3 := Hbw3.out.size
        have HRT := Lib.hid hRT
        have HT4 := Lib.hid hT4
        have Hbw4 := Lib.hid hbw4
        clear hRT hT4 hbw4
        clear Hown4 hlen
        go_wp2
        go_loopw [11, 12, 13, 14, 15, 16, 17, 18, 19, 20, 70] (fun _ _ _ _ _ _ _ _ _ _ i wr => ∃ (k : Nat) (L : List Ep) (A : Option Addr) (c : Nat), k ≤ len' ∧ i = .int .i64 k ∧ GoodL L ∧ Tab wr g b L ∧ RT wr w4.heap.size w3.heap.size A c L ∧ Below w.heap.size w wr) (fun _ _ _ _ _ _ _ _ _ _ i _ => len' - (intOf i).toNat)
        case atStart => exact ⟨0, l, xA, xc, by omega, rfl, HG.out, HT4.out, HRT.out, Hbw4.out⟩
        case round =>
          obtain ⟨k, L, A, c, hk, rfl, hG, hT, hRT, hbw⟩ := hrel
          by_cases hlt : k < len'
          · obtain ⟨ob, off, rfl, hob⟩ := Ha'.out.at_some (by omega)
            obtain ⟨o, ho⟩ := Ha'.out.get hlt
            obtain ⟨c0, c1, c2⟩ := (Ha'.out.below hbw).cell hlt ho
            obtain ⟨ok, ou, on⟩ := o
            dsimp only at c0 c1 c2
            have hou := (Ha'.out.2.2.2.2 _ (List.mem_of_getElem? ho)).2
            have hT2 := hT.below (below_new wr (.cells #[.int .i64 ok, .string ou, .int .i64 on] 32))
            have hR2 := hRT.below (below_new wr (.cells #[.int .i64 ok, .string ou, .int .i64 on] 32))
            have hbw2 := below_alloc hbw (.cells #[.int .i64 ok, .string ou, .int .i64 on] 32)
            have hO := Blk.new wr 32 #[.int .i64 ok, .string ou, .int .i64 on]
            have hgT := hT.1.lt
            have hbT := hT.2.lt
            have hgR := hRT.1.lt
            have Hou := Lib.hid hou
            have HG := Lib.hid hG
            clear hou ho
            by_cases hsz : ou.size ≤ 1000
            · have hsw := hbw.size
              have h3w : w3.heap.size ≤ wr.heap.size := by omega
              have h3s : b < w3.heap.size := hbl
              have h3g : g < w3.heap.size := hgl
              have hgw4 : w3.heap.size ≤ w4.heap.size := hs4
              have HT2 := Lib.hid hT2
              have HR2 := Lib.hid hR2
              have Hbw2 := Lib.hid hbw2
              have HO := Lib.hid hO
              clear hT2 hR2 hbw2 hO
              clear hT hRT hbw hG
              have hget := tab.get_any g b L ou _ HT2.out Hou.out
              go_wp2_with fail
              refine (hget).mono ?_
              rintro e w5 ⟨rfl, rfl⟩
              clear hget
              by_cases hk0 : ok = 0
              · subst hk0
                go_wp2_with fail
                refine (raise_all g b L ou _ HT2.out HG.out Hou.out).mono ?_
                rintro e w6 ⟨n6, v6, rfl, he6, hn6, hT6, hk6⟩
                have hR6 := HR2.out.keeps hk6 (fun h => by simp at h; omega) (fun i h1 h2 h => by simp at h h2; omega)
                have hO6 := HO.out.keeps hk6 (fun h => by simp at h; omega)
                have hb6 := below_kept Hbw2.out hk6 (fun i hi => by have := Hbw2.out.size; omega)
                have q1 : w6.cell? ⟨wr.heap.size, 1, none⟩ = _ := hO6.cell 1
                have q2 := hO6.lt
                simp at q1
                have h6s := hk6.size
                have hra := reft.raise_any w4.heap.size w3.heap.size c A L ou w6 hR6 HG.out (by simp at h6s; omega)
                have HGM := Lib.hid (raise_good HG.out ou)
                have Hmono := Lib.hid (raise_mono HG.out ou)
                have hq0 := fun h => raise_same (L := L) (u := ou) h
                have hq1 := fun h => raise_new (L := L) (u := ou) h
                generalize canC L ou (getL L ou + 1) = q at *
                have Hq0 := Lib.hid hq0
                have Hq1 := Lib.hid hq1
                have HR6 := Lib.hid hR6
                have HO6 := Lib.hid hO6
                have Hb6 := Lib.hid hb6
                have Hra := Lib.hid hra
                have HT6 := Lib.hid hT6
                have He6 := Lib.hid he6
                have Hn6 := Lib.hid hn6
                clear hR6 hO6 hb6 hra hT6 he6 hn6
                clear hk6 HT2 HR2 HO Hbw2 hq0 hq1
                go_wp2_with fail
                refine (Hra.out).mono ?_
                rintro e w7 (⟨hq, rfl, rfl⟩ | ⟨hq, rfl, ⟨A2, c2', hR7⟩, hk7⟩)
                · have hn0 : n6 = 0 := by rw [Hn6.out, if_neg hq]
                  subst hn0
                  have HR := Lib.hid (show RT w6 w4.heap.size w3.heap.size A c (raiseL L ou) by rw [Hq0.out hq]; exact HR6.out)
                  obtain ⟨A2, rfl⟩ : ∃ A2, A2 = A := ⟨_, rfl⟩
                  obtain ⟨c2', rfl⟩ : ∃ c2', c2' = c := ⟨_, rfl⟩
                  have HT := HT6
                  have HO := HO6
                  have HB := Hb6
                  have htold := told_any v6 q w6 He6.out
                  have Htold := Lib.hid htold
                  clear hq htold Hra HR6 Hq0 Hq1
                  go_wp2_with fail
                  refine (Htold.out).mono ?_
                  rintro e w8 ⟨rfl, rfl⟩
                  -- the round's end: what the table has, is what the document says
                  have hr0 := HR.out.1.cell 0
                  have hr1 := HR.out.1.lt
                  have ho1 : w6.cell? ⟨wr.heap.size, 1, none⟩ = _ := HO.out.cell 1
                  have ho2 := HO.out.lt
                  simp at hr0 ho1
                  have hz0 := fun w h => tab.get_any g b (raiseL L ou) ou w h Hou.out
                  have hz1 := fun w h => reft.get_any w4.heap.size w3.heap.size c2' A2 (raiseL L ou) ou w h
                  have hmn := Hmono.out
                  generalize getL (raiseL L ou) ou = z2 at hz0 hz1 hmn
                  generalize getL L ou = z1 at hmn ⊢
                  have hlss : decide (z2 < z1) = false := by simp; omega
                  have Hz0 := Lib.hid hz0
                  have Hz1 := Lib.hid hz1
                  have Hfin := Lib.hid (And.intro HGM.out HB.out)
                  clear hz0 hz1 hmn Hmono
                  go_wp2_with fail
                  refine wp_region_mono nobody (by kernel_rfl) ?_
                  -- 0 Op.move (Operand.tmp 7)
                  refine wpMono_take' 0 (v := ?_) rfl (by kernel_rfl) (by kernel_rfl) (by kernel_rfl) (fun _ _ _ h => h) (by rfl) ?_ ?_
                  rotate_left
                  · (intro W hSw; have hcW := hSw.cells; try simp only [World.size_drew, World.cell?_drew] at hcW
                     go_simp; first | done | rfl)
                  try simp only [Act.put, List.setIfInBounds_toArray, List.set_cons_zero, List.set_cons_succ]
                  -- 1 Op.fieldAddr 32 (Operand.tmp 11) 1
                  refine wpMono_take' 1 (v := ?_) rfl (by kernel_rfl) (by kernel_rfl) (by kernel_rfl) (fun _ _ _ h => h) (by rfl) ?_ ?_
                  rotate_left
                  · (intro W hSw; have hcW := hSw.cells; try simp only [World.size_drew, World.cell?_drew] at hcW
                     go_simp; first | done | rfl)
                  try simp only [Act.put, List.setIfInBounds_toArray, List.set_cons_zero, List.set_cons_succ]
                  -- 2 Op.load 9 (Operand.tmp 153)
                  refine wpMono_take' 2 (v := ?_) rfl (by kernel_rfl) (by kernel_rfl) (by kernel_rfl) (fun _ _ _ h => h) (by rfl) ?_ ?_
                  rotate_left
                  · (intro W hSw; have hcW := hSw.cells; try simp only [World.size_drew, World.cell?_drew] at hcW
                     go_simp; first | done | rfl)
                  try simp only [Act.put, List.setIfInBounds_toArray, List.set_cons_zero, List.set_cons_succ]
                  -- 4 Op.move (Operand.tmp 9)
                  refine wpMono_take' 4 (v := ?_) rfl (by kernel_rfl) (by kernel_rfl) (by kernel_rfl) (fun _ _ _ h => h) (by rfl) ?_ ?_
                  rotate_left
                  · (intro W hSw; have hcW := hSw.cells; try simp only [World.size_drew, World.cell?_drew] at hcW
                     go_simp; first | done | rfl)
                  try simp only [Act.put, List.setIfInBounds_toArray, List.set_cons_zero, List.set_cons_succ]
                  -- 5 Op.fieldAddr 32 (Operand.tmp 11) 1
                  refine wpMono_take' 5 (v := ?_) rfl (by kernel_rfl) (by kernel_rfl) (by kernel_rfl) (fun _ _ _ h => h) (by rfl) ?_ ?_
                  rotate_left
                  · (intro W hSw; have hcW := hSw.cells; try simp only [World.size_drew, World.cell?_drew] at hcW
                     go_simp; first | done | rfl)
                  try simp only [Act.put, List.setIfInBounds_toArray, List.set_cons_zero, List.set_cons_succ]
                  -- 6 Op.load 9 (Operand.tmp 157)
                  refine wpMono_take' 6 (v := ?_) rfl (by kernel_rfl) (by kernel_rfl) (by kernel_rfl) (fun _ _ _ h => h) (by rfl) ?_ ?_
                  rotate_left
                  · (intro W hSw; have hcW := hSw.cells; try simp only [World.size_drew, World.cell?_drew] at hcW
                     go_simp; first | done | rfl)
                  try simp only [Act.put, List.setIfInBounds_toArray, List.set_cons_zero, List.set_cons_succ]
                  -- EFFECT 3 Op.call { callee := Callee.value (Operand.func 14), args := #[Operand.tmp 152, Operand.tmp 154], argTypes := #[26, 9] }
                  refine wpMono_one' 3 (by kernel_rfl) rfl (by rfl) (fun K hK => ?_)
                  go_simp
                  refine (Hz0.out _ (HT.out.keeps (X := nobody) .drew (fun h => h) (fun h => h))).mono ?_
                  rintro e wA ⟨rfl, rfl⟩
                  refine hK.out _ _ ?_ ?_
                  · exact .refl _ _
                  clear hK K
                  try simp only [Act.put, List.setIfInBounds_toArray, List.set_cons_zero, List.set_cons_succ]
                  -- EFFECT 7 Op.call { callee := Callee.value (Operand.func 24), args := #[Operand.tmp 156, Operand.tmp 158], argTypes := #[47, 9] }
                  refine wpMono_one' 7 (by kernel_rfl) rfl (by rfl) (fun K hK => ?_)
                  go_simp
                  refine (Hz1.out _ (HR.out.keeps (X := nobody) .drew (fun h => h) (fun _ _ _ h => h))).mono ?_
                  rintro e wA ⟨rfl, rfl⟩
                  refine hK.out _ _ ?_ ?_
                  · exact .refl _ _
                  clear hK K
                  try simp only [Act.put, List.setIfInBounds_toArray, List.set_cons_zero, List.set_cons_succ]
                  -- 8 Op.binOp BinOp.neq 3 (Operand.tmp 155) (Operand.tmp 159) 3
                  refine wpMono_take' 8 (v := ?_) rfl (by kernel_rfl) (by kernel_rfl) (by kernel_rfl) (fun _ _ _ h => h) (by rfl) ?_ ?_
                  rotate_left
                  · (intro W hSw; have hcW := hSw.cells; try simp only [World.size_drew, World.cell?_drew] at hcW
                     go_simp; first | done | rfl)
                  try simp only [Act.put, List.setIfInBounds_toArray, List.set_cons_zero, List.set_cons_succ]
                  -- 9 Op.move (Operand.tmp 160)
                  refine wpMono_take' 9 (v := ?_) rfl (by kernel_rfl) (by kernel_rfl) (by kernel_rfl) (fun _ _ _ h => h) (by rfl) ?_ ?_
                  rotate_left
                  · (intro W hSw; have hcW := hSw.cells; try simp only [World.size_drew, World.cell?_drew] at hcW
                     go_simp; first | done | rfl)
                  try simp only [Act.put, List.setIfInBounds_toArray, List.set_cons_zero, List.set_cons_succ]
                  -- 10 Op.move (Operand.tmp 7)
                  refine wpMono_take' 10 (v := ?_) rfl (by kernel_rfl) (by kernel_rfl) (by kernel_rfl) (fun _ _ _ h => h) (by rfl) ?_ ?_
                  rotate_left
                  · (intro W hSw; have hcW := hSw.cells; try simp only [World.size_drew, World.cell?_drew] at hcW
                     go_simp; first | done | rfl)
                  try simp only [Act.put, List.setIfInBounds_toArray, List.set_cons_zero, List.set_cons_succ]
                  -- 11 Op.fieldAddr 32 (Operand.tmp 11) 1
                  refine wpMono_take' 11 (v := ?_) rfl (by kernel_rfl) (by kernel_rfl) (by kernel_rfl) (fun _ _ _ h => h) (by rfl) ?_ ?_
                  rotate_left
                  · (intro W hSw; have hcW := hSw.cells; try simp only [World.size_drew, World.cell?_drew] at hcW
                     go_simp; first | done | rfl)
                  try simp only [Act.put, List.setIfInBounds_toArray, List.set_cons_zero, List.set_cons_succ]
                  -- 12 Op.load 9 (Operand.tmp 163)
                  refine wpMono_take' 12 (v := ?_) rfl (by kernel_rfl) (by kernel_rfl) (by kernel_rfl) (fun _ _ _ h => h) (by rfl) ?_ ?_
                  rotate_left
                  · (intro W hSw; have hcW := hSw.cells; try simp only [World.size_drew, World.cell?_drew] at hcW
                     go_simp; first | done | rfl)
                  try simp only [Act.put, List.setIfInBounds_toArray, List.set_cons_zero, List.set_cons_succ]
                  -- 14 Op.move (Operand.tmp 12)
                  refine wpMono_take' 14 (v := ?_) rfl (by kernel_rfl) (by kernel_rfl) (by kernel_rfl) (fun _ _ _ h => h) (by rfl) ?_ ?_
                  rotate_left
                  · (intro W hSw; have hcW := hSw.cells; try simp only [World.size_drew, World.cell?_drew] at hcW
                     go_simp; first | done | rfl)
                  try simp only [Act.put, List.setIfInBounds_toArray, List.set_cons_zero, List.set_cons_succ]
                  -- EFFECT 13 Op.call { callee := Callee.value (Operand.func 14), args := #[Operand.tmp 162, Operand.tmp 164], argTypes := #[26, 9] }
                  refine wpMono_one' 13 (by kernel_rfl) rfl (by rfl) (fun K hK => ?_)
                  go_simp
                  refine (Hz0.out _ (HT.out.keeps (X := nobody) .drew (fun h => h) (fun h => h))).mono ?_
                  rintro e wA ⟨rfl, rfl⟩
                  refine hK.out _ _ ?_ ?_
                  · exact .refl _ _
                  clear hK K
                  try simp only [Act.put, List.setIfInBounds_toArray, List.set_cons_zero, List.set_cons_succ]
                  -- 15 Op.binOp BinOp.lss 3 (Operand.tmp 165) (Operand.tmp 166) 3
                  refine wpMono_take' 15 (v := ?_) rfl (by kernel_rfl) (by kernel_rfl) (by kernel_rfl) (fun _ _ _ h => h) (by rfl) ?_ ?_
                  rotate_left
                  · (intro W hSw; have hcW := hSw.cells; try simp only [World.size_drew, World.cell?_drew] at hcW
                     go_simp; first | done | rfl)
                  try simp only [Act.put, List.setIfInBounds_toArray, List.set_cons_zero, List.set_cons_succ]
                  -- 16 Op.pick (Operand.tmp 161) (Operand.const (Value.bool true)) (Operand.tmp 167)
                  refine wpMono_take' 16 (v := ?_) rfl (by kernel_rfl) (by kernel_rfl) (by kernel_rfl) (fun _ _ _ h => h) (by rfl) ?_ ?_
                  rotate_left
                  · (intro W hSw; have hcW := hSw.cells; try simp only [World.size_drew, World.cell?_drew] at hcW
                     go_simp; first | done | rfl)
                  try simp only [Act.put, List.setIfInBounds_toArray, List.set_cons_zero, List.set_cons_succ]
                  -- 17 Op.move (Operand.tmp 168)
                  refine wpMono_take' 17 (v := ?_) rfl (by kernel_rfl) (by kernel_rfl) (by kernel_rfl) (fun _ _ _ h => h) (by rfl) ?_ ?_
                  rotate_left
                  · (intro W hSw; have hcW := hSw.cells; try simp only [World.size_drew, World.cell?_drew] at hcW
                     go_simp; first | done | rfl)
                  try simp only [Act.put, List.setIfInBounds_toArray, List.set_cons_zero, List.set_cons_succ]
                  -- 18 Op.move (Operand.tmp 7)
                  refine wpMono_take' 18 (v := ?_) rfl (by kernel_rfl) (by kernel_rfl) (by kernel_rfl) (fun _ _ _ h => h) (by rfl) ?_ ?_
                  rotate_left
                  · (intro W hSw; have hcW := hSw.cells; try simp only [World.size_drew, World.cell?_drew] at hcW
                     go_simp; first | done | rfl)
                  try simp only [Act.put, List.setIfInBounds_toArray, List.set_cons_zero, List.set_cons_succ]
                  -- 20 Op.move (Operand.tmp 9)
                  refine wpMono_take' 20 (v := ?_) rfl (by kernel_rfl) (by kernel_rfl) (by kernel_rfl) (fun _ _ _ h => h) (by rfl) ?_ ?_
                  rotate_left
                  · (intro W hSw; have hcW := hSw.cells; try simp only [World.size_drew, World.cell?_drew] at hcW
                     go_simp; first | done | rfl)
                  try simp only [Act.put, List.setIfInBounds_toArray, List.set_cons_zero, List.set_cons_succ]
                  -- 21 Op.nilCheck (Operand.tmp 172)
                  refine wpMono_take' 21 (v := ?_) rfl (by kernel_rfl) (by kernel_rfl) (by kernel_rfl) (fun _ _ _ h => h) (by rfl) ?_ ?_
                  rotate_left
                  · (intro W hSw; have hcW := hSw.cells; try simp only [World.size_drew, World.cell?_drew] at hcW
                     go_simp; first | done | rfl)
                  try simp only [Act.put, List.setIfInBounds_toArray, List.set_cons_zero, List.set_cons_succ]
                  -- 22 Op.fieldAddr 49 (Operand.tmp 173) 0
                  refine wpMono_take' 22 (v := ?_) rfl (by kernel_rfl) (by kernel_rfl) (by kernel_rfl) (fun _ _ _ h => h) (by rfl) ?_ ?_
                  rotate_left
                  · (intro W hSw; have hcW := hSw.cells; try simp only [World.size_drew, World.cell?_drew] at hcW
                     go_simp; first | done | rfl)
                  try simp only [Act.put, List.setIfInBounds_toArray, List.set_cons_zero, List.set_cons_succ]
                  -- 23 Op.load 35 (Operand.tmp 174)
                  refine wpMono_take' 23 (v := ?_) rfl (by kernel_rfl) (by kernel_rfl) (by kernel_rfl) (fun _ _ _ h => h) (by rfl) ?_ ?_
                  rotate_left
                  · (intro W hSw; have hcW := hSw.cells; try simp only [World.size_drew, World.cell?_drew] at hcW
                     go_simp; first | done | rfl)
                  try simp only [Act.put, List.setIfInBounds_toArray, List.set_cons_zero, List.set_cons_succ]
                  -- EFFECT 19 Op.call { callee := Callee.value (Operand.func 13), args := #[Operand.tmp 170], argTypes := #[26] }
                  refine wpMono_one' 19 (by kernel_rfl) rfl (by rfl) (fun K hK => ?_)
                  go_simp
                  refine (list_any g b (raiseL L ou) _ (HT.out.keeps (X := nobody) .drew (fun h => h) (fun h => h)) (by have := HGM.out.2.1; omega) (user_small HGM.out)).mono ?_
                  rintro e wB ⟨lA, lc, rfl, hown, hbB⟩
                  have HE1 := Lib.hid (eps_own hown)
                  have hbB' := below_ofDrew hbB
                  have HR2 := Lib.hid (HR.out.below hbB')
                  have HT2 := Lib.hid (HT.out.below hbB')
                  have HBB := Lib.hid hbB'
                  clear hown hbB'
                  refine hK.out _ _ ?_ ?_
                  · exact .of_below hbB
                  clear hK K
                  try simp only [Act.put, List.setIfInBounds_toArray, List.set_cons_zero, List.set_cons_succ]
                  -- EFFECT 24 Op.call { callee := Callee.value (Operand.func 15), args := #[Operand.tmp 171, Operand.tmp 175], argTypes := #[35, 35] }
                  refine wpMono_one' 24 (by kernel_rfl) rfl (by rfl) (fun K hK => ?_)
                  go_simp
                  refine (same_any _ _ _ _ _ _ _ HE1.out HR2.out.eps).mono ?_
                  rintro e wC ⟨rfl, hbC⟩
                  refine hK.out _ _ ?_ ?_
                  · exact .of_below hbC
                  clear hK K
                  try simp only [Act.put, List.setIfInBounds_toArray, List.set_cons_zero, List.set_cons_succ]
                  -- 25 Op.unOp UnOp.not 4 (Operand.tmp 176)
                  refine wpMono_take' 25 (v := ?_) rfl (by kernel_rfl) (by kernel_rfl) (by kernel_rfl) (fun _ _ _ h => h) (by rfl) ?_ ?_
                  rotate_left
                  · (intro W hSw; have hcW := hSw.cells; try simp only [World.size_drew, World.cell?_drew] at hcW
                     go_simp; first | done | rfl)
                  try simp only [Act.put, List.setIfInBounds_toArray, List.set_cons_zero, List.set_cons_succ]
                  -- 26 Op.pick (Operand.tmp 169) (Operand.const (Value.bool true)) (Operand.tmp 177)
                  refine wpMono_take' 26 (v := ?_) rfl (by kernel_rfl) (by kernel_rfl) (by kernel_rfl) (fun _ _ _ h => h) (by rfl) ?_ ?_
                  rotate_left
                  · (intro W hSw; have hcW := hSw.cells; try simp only [World.size_drew, World.cell?_drew] at hcW
                     go_simp; first | done | rfl)
                  try simp only [Act.put, List.setIfInBounds_toArray, List.set_cons_zero, List.set_cons_succ]
                  refine wpMono_done (by kernel_rfl) ?_ _
                  have HT3 := Lib.hid (HT2.out.below hbC)
                  have HR3 := Lib.hid (HR2.out.below hbC)
                  have HB3 := Lib.hid (below_step Hfin.out.2 (below_step HBB.out hbC))
                  clear hbB hbC
                  go_wp2
                  go_roundw
                  case rel => exact ⟨k + 1, (raiseL L ou), A2, c2', by omega, by go_num, Hfin.out.1, HT3.out, HR3.out, HB3.out⟩
                  case measure => simp [intOf]; omega
                · have hn0 : n6 = getL L ou + 1 := by rw [Hn6.out, if_pos hq]
                  subst hq
                  have HR := Lib.hid (show RT w7 w4.heap.size w3.heap.size A2 c2' (raiseL L ou) by rw [Hq1.out rfl]; exact hR7)
                  have HT := Lib.hid (HT6.out.keeps hk7 (fun h => by have h : _ = _ := h; omega) (fun h => by have h : _ = _ := h; omega))
                  have HO := Lib.hid (HO6.out.keeps hk7 (fun h => by have h : _ = _ := h; omega))
                  have HB := Lib.hid (below_kept Hb6.out hk7 (fun i hi => by omega))
                  obtain rfl := eo_none He6.out
                  have htold := told_any .nilIface 0 w7 (.nil _)
                  have Htold := Lib.hid htold
                  have hnn : (n6 != getL L ou + 1) = false := by simp [hn0]
                  clear htold Hra HR6 Hq0 Hq1 hk7 hR7 hn0 q1 q2
                  go_wp2_with fail
                  refine (Htold.out).mono ?_
                  rintro e w8 ⟨rfl, rfl⟩
                  -- the round's end: what the table has, is what the document says
                  have hr0 := HR.out.1.cell 0
                  have hr1 := HR.out.1.lt
                  have ho1 : w7.cell? ⟨wr.heap.size, 1, none⟩ = _ := HO.out.cell 1
                  have ho2 := HO.out.lt
                  simp at hr0 ho1
                  have hz0 := fun w h => tab.get_any g b (raiseL L ou) ou w h Hou.out
                  have hz1 := fun w h => reft.get_any w4.heap.size w3.heap.size c2' A2 (raiseL L ou) ou w h
                  have hmn := Hmono.out
                  generalize getL (raiseL L ou) ou = z2 at hz0 hz1 hmn
                  generalize getL L ou = z1 at hmn ⊢
                  have hlss : decide (z2 < z1) = false := by simp; omega
                  have Hz0 := Lib.hid hz0
                  have Hz1 := Lib.hid hz1
                  have Hfin := Lib.hid (And.intro HGM.out HB.out)
                  clear hz0 hz1 hmn Hmono
                  go_wp2_with fail
                  refine wp_region_mono nobody (by kernel_rfl) ?_
                  -- 0 Op.move (Operand.tmp 7)
                  refine wpMono_take' 0 (v := ?_) rfl (by kernel_rfl) (by kernel_rfl) (by kernel_rfl) (fun _ _ _ h => h) (by rfl) ?_ ?_
                  rotate_left
                  · (intro W hSw; have hcW := hSw.cells; try simp only [World.size_drew, World.cell?_drew] at hcW
                     go_simp; first | done | rfl)
                  try simp only [Act.put, List.setIfInBounds_toArray, List.set_cons_zero, List.set_cons_succ]
                  -- 1 Op.fieldAddr 32 (Operand.tmp 11) 1
                  refine wpMono_take' 1 (v := ?_) rfl (by kernel_rfl) (by kernel_rfl) (by kernel_rfl) (fun _ _ _ h => h) (by rfl) ?_ ?_
                  rotate_left
                  · (intro W hSw; have hcW := hSw.cells; try simp only [World.size_drew, World.cell?_drew] at hcW
                     go_simp; first | done | rfl)
                  try simp only [Act.put, List.setIfInBounds_toArray, List.set_cons_zero, List.set_cons_succ]
                  -- 2 Op.load 9 (Operand.tmp 153)
                  refine wpMono_take' 2 (v := ?_) rfl (by kernel_rfl) (by kernel_rfl) (by kernel_rfl) (fun _ _ _ h => h) (by rfl) ?_ ?_
                  rotate_left
                  · (intro W hSw; have hcW := hSw.cells; try simp only [World.size_drew, World.cell?_drew] at hcW
                     go_simp; first | done | rfl)
                  try simp only [Act.put, List.setIfInBounds_toArray, List.set_cons_zero, List.set_cons_succ]
                  -- 4 Op.move (Operand.tmp 9)
                  refine wpMono_take' 4 (v := ?_) rfl (by kernel_rfl) (by kernel_rfl) (by kernel_rfl) (fun _ _ _ h => h) (by rfl) ?_ ?_
                  rotate_left
                  · (intro W hSw; have hcW := hSw.cells; try simp only [World.size_drew, World.cell?_drew] at hcW
                     go_simp; first | done | rfl)
                  try simp only [Act.put, List.setIfInBounds_toArray, List.set_cons_zero, List.set_cons_succ]
                  -- 5 Op.fieldAddr 32 (Operand.tmp 11) 1
                  refine wpMono_take' 5 (v := ?_) rfl (by kernel_rfl) (by kernel_rfl) (by kernel_rfl) (fun _ _ _ h => h) (by rfl) ?_ ?_
                  rotate_left
                  · (intro W hSw; have hcW := hSw.cells; try simp only [World.size_drew, World.cell?_drew] at hcW
                     go_simp; first | done | rfl)
                  try simp only [Act.put, List.setIfInBounds_toArray, List.set_cons_zero, List.set_cons_succ]
                  -- 6 Op.load 9 (Operand.tmp 157)
                  refine wpMono_take' 6 (v := ?_) rfl (by kernel_rfl) (by kernel_rfl) (by kernel_rfl) (fun _ _ _ h => h) (by rfl) ?_ ?_
                  rotate_left
                  · (intro W hSw; have hcW := hSw.cells; try simp only [World.size_drew, World.cell?_drew] at hcW
                     go_simp; first | done | rfl)
                  try simp only [Act.put, List.setIfInBounds_toArray, List.set_cons_zero, List.set_cons_succ]
                  -- EFFECT 3 Op.call { callee := Callee.value (Operand.func 14), args := #[Operand.tmp 152, Operand.tmp 154], argTypes := #[26, 9] }
                  refine wpMono_one' 3 (by kernel_rfl) rfl (by rfl) (fun K hK => ?_)
                  go_simp
                  refine (Hz0.out _ (HT.out.keeps (X := nobody) .drew (fun h => h) (fun h => h))).mono ?_
                  rintro e wA ⟨rfl, rfl⟩
                  refine hK.out _ _ ?_ ?_
                  · exact .refl _ _
                  clear hK K
                  try simp only [Act.put, List.setIfInBounds_toArray, List.set_cons_zero, List.set_cons_succ]
                  -- EFFECT 7 Op.call { callee := Callee.value (Operand.func 24), args := #[Operand.tmp 156, Operand.tmp 158], argTypes := #[47, 9] }
                  refine wpMono_one' 7 (by kernel_rfl) rfl (by rfl) (fun K hK => ?_)
                  go_simp
                  refine (Hz1.out _ (HR.out.keeps (X := nobody) .drew (fun h => h) (fun _ _ _ h => h))).mono ?_
                  rintro e wA ⟨rfl, rfl⟩
                  refine hK.out _ _ ?_ ?_
                  · exact .refl _ _
                  clear hK K
                  try simp only [Act.put, List.setIfInBounds_toArray, List.set_cons_zero, List.set_cons_succ]
                  -- 8 Op.binOp BinOp.neq 3 (Operand.tmp 155) (Operand.tmp 159) 3
                  refine wpMono_take' 8 (v := ?_) rfl (by kernel_rfl) (by kernel_rfl) (by kernel_rfl) (fun _ _ _ h => h) (by rfl) ?_ ?_
                  rotate_left
                  · (intro W hSw; have hcW := hSw.cells; try simp only [World.size_drew, World.cell?_drew] at hcW
                     go_simp; first | done | rfl)
                  try simp only [Act.put, List.setIfInBounds_toArray, List.set_cons_zero, List.set_cons_succ]
                  -- 9 Op.move (Operand.tmp 160)
                  refine wpMono_take' 9 (v := ?_) rfl (by kernel_rfl) (by kernel_rfl) (by kernel_rfl) (fun _ _ _ h => h) (by rfl) ?_ ?_
                  rotate_left
                  · (intro W hSw; have hcW := hSw.cells; try simp only [World.size_drew, World.cell?_drew] at hcW
                     go_simp; first | done | rfl)
                  try simp only [Act.put, List.setIfInBounds_toArray, List.set_cons_zero, List.set_cons_succ]
                  -- 10 Op.move (Operand.tmp 7)
                  refine wpMono_take' 10 (v := ?_) rfl (by kernel_rfl) (by kernel_rfl) (by kernel_rfl) (fun _ _ _ h => h) (by rfl) ?_ ?_
                  rotate_left
                  · (intro W hSw; have hcW := hSw.cells; try simp only [World.size_drew, World.cell?_drew] at hcW
                     go_simp; first | done | rfl)
                  try simp only [Act.put, List.setIfInBounds_toArray, List.set_cons_zero, List.set_cons_succ]
                  -- 11 Op.fieldAddr 32 (Operand.tmp 11) 1
                  refine wpMono_take' 11 (v := ?_) rfl (by kernel_rfl) (by kernel_rfl) (by kernel_rfl) (fun _ _ _ h => h) (by rfl) ?_ ?_
                  rotate_left
                  · (intro W hSw; have hcW := hSw.cells; try simp only [World.size_drew, World.cell?_drew] at hcW
                     go_simp; first | done | rfl)
                  try simp only [Act.put, List.setIfInBounds_toArray, List.set_cons_zero, List.set_cons_succ]
                  -- 12 Op.load 9 (Operand.tmp 163)
                  refine wpMono_take' 12 (v := ?_) rfl (by kernel_rfl) (by kernel_rfl) (by kernel_rfl) (fun _ _ _ h => h) (by rfl) ?_ ?_
                  rotate_left
                  · (intro W hSw; have hcW := hSw.cells; try simp only [World.size_drew, World.cell?_drew] at hcW
                     go_simp; first | done | rfl)
                  try simp only [Act.put, List.setIfInBounds_toArray, List.set_cons_zero, List.set_cons_succ]
                  -- 14 Op.move (Operand.tmp 12)
                  refine wpMono_take' 14 (v := ?_) rfl (by kernel_rfl) (by kernel_rfl) (by kernel_rfl) (fun _ _ _ h => h) (by rfl) ?_ ?_
                  rotate_left
                  · (intro W hSw; have hcW := hSw.cells; try simp only [World.size_drew, World.cell?_drew] at hcW
                     go_simp; first | done | rfl)
                  try simp only [Act.put, List.setIfInBounds_toArray, List.set_cons_zero, List.set_cons_succ]
                  -- EFFECT 13 Op.call { callee := Callee.value (Operand.func 14), args := #[Operand.tmp 162, Operand.tmp 164], argTypes := #[26, 9] }
                  refine wpMono_one' 13 (by kernel_rfl) rfl (by rfl) (fun K hK => ?_)
                  go_simp
                  refine (Hz0.out _ (HT.out.keeps (X := nobody) .drew (fun h => h) (fun h => h))).mono ?_
                  rintro e wA ⟨rfl, rfl⟩
                  refine hK.out _ _ ?_ ?_
                  · exact .refl _ _
                  clear hK K
                  try simp only [Act.put, List.setIfInBounds_toArray, List.set_cons_zero, List.set_cons_succ]
                  -- 15 Op.binOp BinOp.lss 3 (Operand.tmp 165) (Operand.tmp 166) 3
                  refine wpMono_take' 15 (v := ?_) rfl (by kernel_rfl) (by kernel_rfl) (by kernel_rfl) (fun _ _ _ h => h) (by rfl) ?_ ?_
                  rotate_left
                  · (intro W hSw; have hcW := hSw.cells; try simp only [World.size_drew, World.cell?_drew] at hcW
                     go_simp; first | done | rfl)
                  try simp only [Act.put, List.setIfInBounds_toArray, List.set_cons_zero, List.set_cons_succ]
                  -- 16 Op.pick (Operand.tmp 161) (Operand.const (Value.bool true)) (Operand.tmp 167)
                  refine wpMono_take' 16 (v := ?_) rfl (by kernel_rfl) (by kernel_rfl) (by kernel_rfl) (fun _ _ _ h => h) (by rfl) ?_ ?_
                  rotate_left
                  · (intro W hSw; have hcW := hSw.cells; try simp only [World.size_drew, World.cell?_drew] at hcW
                     go_simp; first | done | rfl)
                  try simp only [Act.put, List.setIfInBounds_toArray, List.set_cons_zero, List.set_cons_succ]
                  -- 17 Op.move (Operand.tmp 168)
                  refine wpMono_take' 17 (v := ?_) rfl (by kernel_rfl) (by kernel_rfl) (by kernel_rfl) (fun _ _ _ h => h) (by rfl) ?_ ?_
                  rotate_left
                  · (intro W hSw; have hcW := hSw.cells; try simp only [World.size_drew, World.cell?_drew] at hcW
                     go_simp; first | done | rfl)
                  try simp only [Act.put, List.setIfInBounds_toArray, List.set_cons_zero, List.set_cons_succ]
                  -- 18 Op.move (Operand.tmp 7)
                  refine wpMono_take' 18 (v := ?_) rfl (by kernel_rfl) (by kernel_rfl) (by kernel_rfl) (fun _ _ _ h => h) (by rfl) ?_ ?_
                  rotate_left
                  · (intro W hSw; have hcW := hSw.cells; try simp only [World.size_drew, World.cell?_drew] at hcW
                     go_simp; first | done | rfl)
                  try simp only [Act.put, List.setIfInBounds_toArray, List.set_cons_zero, List.set_cons_succ]
                  -- 20 Op.move (Operand.tmp 9)
                  refine wpMono_take' 20 (v := ?_) rfl (by kernel_rfl) (by kernel_rfl) (by kernel_rfl) (fun _ _ _ h => h) (by rfl) ?_ ?_
                  rotate_left
                  · (intro W hSw; have hcW := hSw.cells; try simp only [World.size_drew, World.cell?_drew] at hcW
                     go_simp; first | done | rfl)
                  try simp only [Act.put, List.setIfInBounds_toArray, List.set_cons_zero, List.set_cons_succ]
                  -- 21 Op.nilCheck (Operand.tmp 172)
                  refine wpMono_take' 21 (v := ?_) rfl (by kernel_rfl) (by kernel_rfl) (by kernel_rfl) (fun _ _ _ h => h) (by rfl) ?_ ?_
                  rotate_left
                  · (intro W hSw; have hcW := hSw.cells; try simp only [World.size_drew, World.cell?_drew] at hcW
                     go_simp; first | done | rfl)
                  try simp only [Act.put, List.setIfInBounds_toArray, List.set_cons_zero, List.set_cons_succ]
                  -- 22 Op.fieldAddr 49 (Operand.tmp 173) 0
                  refine wpMono_take' 22 (v := ?_) rfl (by kernel_rfl) (by kernel_rfl) (by kernel_rfl) (fun _ _ _ h => h) (by rfl) ?_ ?_
                  rotate_left
                  · (intro W hSw; have hcW := hSw.cells; try simp only [World.size_drew, World.cell?_drew] at hcW
                     go_simp; first | done | rfl)
                  try simp only [Act.put, List.setIfInBounds_toArray, List.set_cons_zero, List.set_cons_succ]
                  -- 23 Op.load 35 (Operand.tmp 174)
                  refine wpMono_take' 23 (v := ?_) rfl (by kernel_rfl) (by kernel_rfl) (by kernel_rfl) (fun _ _ _ h => h) (by rfl) ?_ ?_
                  rotate_left
                  · (intro W hSw; have hcW := hSw.cells; try simp only [World.size_drew, World.cell?_drew] at hcW
                     go_simp; first | done | rfl)
                  try simp only [Act.put, List.setIfInBounds_toArray, List.set_cons_zero, List.set_cons_succ]
                  -- EFFECT 19 Op.call { callee := Callee.value (Operand.func 13), args := #[Operand.tmp 170], argTypes := #[26] }
                  refine wpMono_one' 19 (by kernel_rfl) rfl (by rfl) (fun K hK => ?_)
                  go_simp
                  refine (list_any g b (raiseL L ou) _ (HT.out.keeps (X := nobody) .drew (fun h => h) (fun h => h)) (by have := HGM.out.2.1; omega) (user_small HGM.out)).mono ?_
                  rintro e wB ⟨lA, lc, rfl, hown, hbB⟩
                  have HE1 := Lib.hid (eps_own hown)
                  have hbB' := below_ofDrew hbB
                  have HR2 := Lib.hid (HR.out.below hbB')
                  have HT2 := Lib.hid (HT.out.below hbB')
                  have HBB := Lib.hid hbB'
                  clear hown hbB'
                  refine hK.out _ _ ?_ ?_
                  · exact .of_below hbB
                  clear hK K
                  try simp only [Act.put, List.setIfInBounds_toArray, List.set_cons_zero, List.set_cons_succ]
                  -- EFFECT 24 Op.call { callee := Callee.value (Operand.func 15), args := #[Operand.tmp 171, Operand.tmp 175], argTypes := #[35, 35] }
                  refine wpMono_one' 24 (by kernel_rfl) rfl (by rfl) (fun K hK => ?_)
                  go_simp
                  refine (same_any _ _ _ _ _ _ _ HE1.out HR2.out.eps).mono ?_
                  rintro e wC ⟨rfl, hbC⟩
                  refine hK.out _ _ ?_ ?_
                  · exact .of_below hbC
                  clear hK K
                  try simp only [Act.put, List.setIfInBounds_toArray, List.set_cons_zero, List.set_cons_succ]
                  -- 25 Op.unOp UnOp.not 4 (Operand.tmp 176)
                  refine wpMono_take' 25 (v := ?_) rfl (by kernel_rfl) (by kernel_rfl) (by kernel_rfl) (fun _ _ _ h => h) (by rfl) ?_ ?_
                  rotate_left
                  · (intro W hSw; have hcW := hSw.cells; try simp only [World.size_drew, World.cell?_drew] at hcW
                     go_simp; first | done | rfl)
                  try simp only [Act.put, List.setIfInBounds_toArray, List.set_cons_zero, List.set_cons_succ]
                  -- 26 Op.pick (Operand.tmp 169) (Operand.const (Value.bool true)) (Operand.tmp 177)
                  refine wpMono_take' 26 (v := ?_) rfl (by kernel_rfl) (by kernel_rfl) (by kernel_rfl) (fun _ _ _ h => h) (by rfl) ?_ ?_
                  rotate_left
                  · (intro W hSw; have hcW := hSw.cells; try simp only [World.size_drew, World.cell?_drew] at hcW
                     go_simp; first | done | rfl)
                  try simp only [Act.put, List.setIfInBounds_toArray, List.set_cons_zero, List.set_cons_succ]
                  refine wpMono_done (by kernel_rfl) ?_ _
                  have HT3 := Lib.hid (HT2.out.below hbC)
                  have HR3 := Lib.hid (HR2.out.below hbC)
                  have HB3 := Lib.hid (below_step Hfin.out.2 (below_step HBB.out hbC))
                  clear hbB hbC
                  go_wp2
                  go_roundw
                  case rel => exact ⟨k + 1, (raiseL L ou), A2, c2', by omega, by go_num, Hfin.out.1, HT3.out, HR3.out, HB3.out⟩
                  case measure => simp [intOf]; omega
              · by_cases hk1 : ok = 1
                · subst hk1
                  go_wp2_with fail
                  refine (learn_all g b L ou on _ HT2.out HG.out Hou.out).mono ?_
                  rintro e w6 ⟨ok6, v6, rfl, he6, hok6, hT6, hk6⟩
                  have hR6 := HR2.out.keeps hk6 (fun h => by simp at h; omega) (fun i h1 h2 h => by simp at h h2; omega)
                  have hO6 := HO.out.keeps hk6 (fun h => by simp at h; omega)
                  have hb6 := below_kept Hbw2.out hk6 (fun i hi => by have := Hbw2.out.size; omega)
                  have q1 : w6.cell? ⟨wr.heap.size, 1, none⟩ = _ := hO6.cell 1
                  have q3 : w6.cell? ⟨wr.heap.size, 2, none⟩ = _ := hO6.cell 2
                  have q2 := hO6.lt
                  simp at q1 q3
                  have h6s := hk6.size
                  have hra := reft.learn_any w4.heap.size w3.heap.size c A L ou on w6 hR6 HG.out (by simp at h6s; omega)
                  have HGM := Lib.hid (learn_good HG.out ou on)
                  have Hmono := Lib.hid (learn_mono HG.out ou on)
                  have hq0 := fun h => learn_same (L := L) (u := ou) (n := on) h
                  have hq1 := fun h => learn_elder (L := L) (u := ou) (n := on) h
                  have hq2 := fun hc h => learn_newer (L := L) (u := ou) (n := on) hc h
                  generalize canC L ou on = q at *
                  have Hq0 := Lib.hid hq0
                  have Hq1 := Lib.hid hq1
                  have Hq2 := Lib.hid hq2
                  have HR6 := Lib.hid hR6
                  have HO6 := Lib.hid hO6
                  have Hb6 := Lib.hid hb6
                  have Hra := Lib.hid hra
                  have HT6 := Lib.hid hT6
                  have He6 := Lib.hid he6
                  have Hok6 := Lib.hid hok6
                  clear hR6 hO6 hb6 hra hT6 he6 hok6
                  clear hk6 HT2 HR2 HO Hbw2 hq0 hq1 hq2
                  go_wp2_with fail
                  refine (Hra.out).mono ?_
                  rintro e w7 (⟨hq, rfl, rfl⟩ | ⟨hq, hn, rfl, rfl⟩ | ⟨hq, hn, rfl, ⟨A2, c2', hR7⟩, hk7⟩)
                  · have hn0 : ok6 = false := by rw [Hok6.out]; simp [hq]
                    subst hn0
                    have HR := Lib.hid (show RT w6 w4.heap.size w3.heap.size A c (learnL L ou on) by rw [Hq0.out hq]; exact HR6.out)
                    obtain ⟨A2, rfl⟩ : ∃ A2, A2 = A := ⟨_, rfl⟩
                    obtain ⟨c2', rfl⟩ : ∃ c2', c2' = c := ⟨_, rfl⟩
                    have HT := HT6
                    have HO := HO6
                    have HB := Hb6
                    have htold := told_any v6 q w6 He6.out
                    have Htold := Lib.hid htold
                    clear hq htold Hra HR6 Hq0 Hq1 Hq2 Hok6
                    go_wp2_with fail
                    refine (Htold.out).mono ?_
                    rintro e w8 ⟨rfl, rfl⟩
                    -- the round's end: what the table has, is what the document says
                    have hr0 := HR.out.1.cell 0
                    have hr1 := HR.out.1.lt
                    have ho1 : w6.cell? ⟨wr.heap.size, 1, none⟩ = _ := HO.out.cell 1
                    have ho2 := HO.out.lt
                    simp at hr0 ho1
                    have hz0 := fun w h => tab.get_any g b (learnL L ou on) ou w h Hou.out
                    have hz1 := fun w h => reft.get_any w4.heap.size w3.heap.size c2' A2 (learnL L ou on) ou w h
                    have hmn := Hmono.out
                    generalize getL (learnL L ou on) ou = z2 at hz0 hz1 hmn
                    generalize getL L ou = z1 at hmn ⊢
                    have hlss : decide (z2 < z1) = false := by simp; omega
                    have Hz0 := Lib.hid hz0
                    have Hz1 := Lib.hid hz1
                    have Hfin := Lib.hid (And.intro HGM.out HB.out)
                    clear hz0 hz1 hmn Hmono
                    go_wp2_with fail
                    refine wp_region_mono nobody (by kernel_rfl) ?_
                    -- 0 Op.move (Operand.tmp 7)
                    refine wpMono_take' 0 (v := ?_) rfl (by kernel_rfl) (by kernel_rfl) (by kernel_rfl) (fun _ _ _ h => h) (by rfl) ?_ ?_
                    rotate_left
                    · (intro W hSw; have hcW := hSw.cells; try simp only [World.size_drew, World.cell?_drew] at hcW
                       go_simp; first | done | rfl)
                    try simp only [Act.put, List.setIfInBounds_toArray, List.set_cons_zero, List.set_cons_succ]
                    -- 1 Op.fieldAddr 32 (Operand.tmp 11) 1
                    refine wpMono_take' 1 (v := ?_) rfl (by kernel_rfl) (by kernel_rfl) (by kernel_rfl) (fun _ _ _ h => h) (by rfl) ?_ ?_
                    rotate_left
                    · (intro W hSw; have hcW := hSw.cells; try simp only [World.size_drew, World.cell?_drew] at hcW
                       go_simp; first | done | rfl)
                    try simp only [Act.put, List.setIfInBounds_toArray, List.set_cons_zero, List.set_cons_succ]
                    -- 2 Op.load 9 (Operand.tmp 153)
                    refine wpMono_take' 2 (v := ?_) rfl (by kernel_rfl) (by kernel_rfl) (by kernel_rfl) (fun _ _ _ h => h) (by rfl) ?_ ?_
                    rotate_left
                    · (intro W hSw; have hcW := hSw.cells; try simp only [World.size_drew, World.cell?_drew] at hcW
                       go_simp; first | done | rfl)
                    try simp only [Act.put, List.setIfInBounds_toArray, List.set_cons_zero, List.set_cons_succ]
                    -- 4 Op.move (Operand.tmp 9)
                    refine wpMono_take' 4 (v := ?_) rfl (by kernel_rfl) (by kernel_rfl) (by kernel_rfl) (fun _ _ _ h => h) (by rfl) ?_ ?_
                    rotate_left
                    · (intro W hSw; have hcW := hSw.cells; try simp only [World.size_drew, World.cell?_drew] at hcW
                       go_simp; first | done | rfl)
                    try simp only [Act.put, List.setIfInBounds_toArray, List.set_cons_zero, List.set_cons_succ]
                    -- 5 Op.fieldAddr 32 (Operand.tmp 11) 1
                    refine wpMono_take' 5 (v := ?_) rfl (by kernel_rfl) (by kernel_rfl) (by kernel_rfl) (fun _ _ _ h => h) (by rfl) ?_ ?_
                    rotate_left
                    · (intro W hSw; have hcW := hSw.cells; try simp only [World.size_drew, World.cell?_drew] at hcW
                       go_simp; first | done | rfl)
                    try simp only [Act.put, List.setIfInBounds_toArray, List.set_cons_zero, List.set_cons_succ]
                    -- 6 Op.load 9 (Operand.tmp 157)
                    refine wpMono_take' 6 (v := ?_) rfl (by kernel_rfl) (by kernel_rfl) (by kernel_rfl) (fun _ _ _ h => h) (by rfl) ?_ ?_
                    rotate_left
                    · (intro W hSw; have hcW := hSw.cells; try simp only [World.size_drew, World.cell?_drew] at hcW
                       go_simp; first | done | rfl)
                    try simp only [Act.put, List.setIfInBounds_toArray, List.set_cons_zero, List.set_cons_succ]
                    -- EFFECT 3 Op.call { callee := Callee.value (Operand.func 14), args := #[Operand.tmp 152, Operand.tmp 154], argTypes := #[26, 9] }
                    refine wpMono_one' 3 (by kernel_rfl) rfl (by rfl) (fun K hK => ?_)
                    go_simp
                    refine (Hz0.out _ (HT.out.keeps (X := nobody) .drew (fun h => h) (fun h => h))).mono ?_
                    rintro e wA ⟨rfl, rfl⟩
                    refine hK.out _ _ ?_ ?_
                    · exact .refl _ _
                    clear hK K
                    try simp only [Act.put, List.setIfInBounds_toArray, List.set_cons_zero, List.set_cons_succ]
                    -- EFFECT 7 Op.call { callee := Callee.value (Operand.func 24), args := #[Operand.tmp 156, Operand.tmp 158], argTypes := #[47, 9] }
                    refine wpMono_one' 7 (by kernel_rfl) rfl (by rfl) (fun K hK => ?_)
                    go_simp
                    refine (Hz1.out _ (HR.out.keeps (X := nobody) .drew (fun h => h) (fun _ _ _ h => h))).mono ?_
                    rintro e wA ⟨rfl, rfl⟩
                    refine hK.out _ _ ?_ ?_
                    · exact .refl _ _
                    clear hK K
                    try simp only [Act.put, List.setIfInBounds_toArray, List.set_cons_zero, List.set_cons_succ]
                    -- 8 Op.binOp BinOp.neq 3 (Operand.tmp 155) (Operand.tmp 159) 3
                    refine wpMono_take' 8 (v := ?_) rfl (by kernel_rfl) (by kernel_rfl) (by kernel_rfl) (fun _ _ _ h => h) (by rfl) ?_ ?_
                    rotate_left
                    · (intro W hSw; have hcW := hSw.cells; try simp only [World.size_drew, World.cell?_drew] at hcW
                       go_simp; first | done | rfl)
                    try simp only [Act.put, List.setIfInBounds_toArray, List.set_cons_zero, List.set_cons_succ]
                    -- 9 Op.move (Operand.tmp 160)
                    refine wpMono_take' 9 (v := ?_) rfl (by kernel_rfl) (by kernel_rfl) (by kernel_rfl) (fun _ _ _ h => h) (by rfl) ?_ ?_
                    rotate_left
                    · (intro W hSw; have hcW := hSw.cells; try simp only [World.size_drew, World.cell?_drew] at hcW
                       go_simp; first | done | rfl)
                    try simp only [Act.put, List.setIfInBounds_toArray, List.set_cons_zero, List.set_cons_succ]
                    -- 10 Op.move (Operand.tmp 7)
                    refine wpMono_take' 10 (v := ?_) rfl (by kernel_rfl) (by kernel_rfl) (by kernel_rfl) (fun _ _ _ h => h) (by rfl) ?_ ?_
                    rotate_left
                    · (intro W hSw; have hcW := hSw.cells; try simp only [World.size_drew, World.cell?_drew] at hcW
                       go_simp; first | done | rfl)
                    try simp only [Act.put, List.setIfInBounds_toArray, List.set_cons_zero, List.set_cons_succ]
                    -- 11 Op.fieldAddr 32 (Operand.tmp 11) 1
                    refine wpMono_take' 11 (v := ?_) rfl (by kernel_rfl) (by kernel_rfl) (by kernel_rfl) (fun _ _ _ h => h) (by rfl) ?_ ?_
                    rotate_left
                    · (intro W hSw; have hcW := hSw.cells; try simp only [World.size_drew, World.cell?_drew] at hcW
                       go_simp; first | done | rfl)
                    try simp only [Act.put, List.setIfInBounds_toArray, List.set_cons_zero, List.set_cons_succ]
                    -- 12 Op.load 9 (Operand.tmp 163)
                    refine wpMono_take' 12 (v := ?_) rfl (by kernel_rfl) (by kernel_rfl) (by kernel_rfl) (fun _ _ _ h => h) (by rfl) ?_ ?_
                    rotate_left
                    · (intro W hSw; have hcW := hSw.cells; try simp only [World.size_drew, World.cell?_drew] at hcW
                       go_simp; first | done | rfl)
                    try simp only [Act.put, List.setIfInBounds_toArray, List.set_cons_zero, List.set_cons_succ]
                    -- 14 Op.move (Operand.tmp 12)
                    refine wpMono_take' 14 (v := ?_) rfl (by kernel_rfl) (by kernel_rfl) (by kernel_rfl) (fun _ _ _ h => h) (by rfl) ?_ ?_
                    rotate_left
                    · (intro W hSw; have hcW := hSw.cells; try simp only [World.size_drew, World.cell?_drew] at hcW
                       go_simp; first | done | rfl)
                    try simp only [Act.put, List.setIfInBounds_toArray, List.set_cons_zero, List.set_cons_succ]
                    -- EFFECT 13 Op.call { callee := Callee.value (Operand.func 14), args := #[Operand.tmp 162, Operand.tmp 164], argTypes := #[26, 9] }
                    refine wpMono_one' 13 (by kernel_rfl) rfl (by rfl) (fun K hK => ?_)
                    go_simp
                    refine (Hz0.out _ (HT.out.keeps (X := nobody) .drew (fun h => h) (fun h => h))).mono ?_
                    rintro e wA ⟨rfl, rfl⟩
                    refine hK.out _ _ ?_ ?_
                    · exact .refl _ _
                    clear hK K
                    try simp only [Act.put, List.setIfInBounds_toArray, List.set_cons_zero, List.set_cons_succ]
                    -- 15 Op.binOp BinOp.lss 3 (Operand.tmp 165) (Operand.tmp 166) 3
                    refine wpMono_take' 15 (v := ?_) rfl (by kernel_rfl) (by kernel_rfl) (by kernel_rfl) (fun _ _ _ h => h) (by rfl) ?_ ?_
                    rotate_left
                    · (intro W hSw; have hcW := hSw.cells; try simp only [World.size_drew, World.cell?_drew] at hcW
                       go_simp; first | done | rfl)
                    try simp only [Act.put, List.setIfInBounds_toArray, List.set_cons_zero, List.set_cons_succ]
                    -- 16 Op.pick (Operand.tmp 161) (Operand.const (Value.bool true)) (Operand.tmp 167)
                    refine wpMono_take' 16 (v := ?_) rfl (by kernel_rfl) (by kernel_rfl) (by kernel_rfl) (fun _ _ _ h => h) (by rfl) ?_ ?_
                    rotate_left
                    · (intro W hSw; have hcW := hSw.cells; try simp only [World.size_drew, World.cell?_drew] at hcW
                       go_simp; first | done | rfl)
                    try simp only [Act.put, List.setIfInBounds_toArray, List.set_cons_zero, List.set_cons_succ]
                    -- 17 Op.move (Operand.tmp 168)
                    refine wpMono_take' 17 (v := ?_) rfl (by kernel_rfl) (by kernel_rfl) (by kernel_rfl) (fun _ _ _ h => h) (by rfl) ?_ ?_
                    rotate_left
                    · (intro W hSw; have hcW := hSw.cells; try simp only [World.size_drew, World.cell?_drew] at hcW
                       go_simp; first | done | rfl)
                    try simp only [Act.put, List.setIfInBounds_toArray, List.set_cons_zero, List.set_cons_succ]
                    -- 18 Op.move (Operand.tmp 7)
                    refine wpMono_take' 18 (v := ?_) rfl (by kernel_rfl) (by kernel_rfl) (by kernel_rfl) (fun _ _ _ h => h) (by rfl) ?_ ?_
                    rotate_left
                    · (intro W hSw; have hcW := hSw.cells; try simp only [World.size_drew, World.cell?_drew] at hcW
                       go_simp; first | done | rfl)
                    try simp only [Act.put, List.setIfInBounds_toArray, List.set_cons_zero, List.set_cons_succ]
                    -- 20 Op.move (Operand.tmp 9)
                    refine wpMono_take' 20 (v := ?_) rfl (by kernel_rfl) (by kernel_rfl) (by kernel_rfl) (fun _ _ _ h => h) (by rfl) ?_ ?_
                    rotate_left
                    · (intro W hSw; have hcW := hSw.cells; try simp only [World.size_drew, World.cell?_drew] at hcW
                       go_simp; first | done | rfl)
                    try simp only [Act.put, List.setIfInBounds_toArray, List.set_cons_zero, List.set_cons_succ]
                    -- 21 Op.nilCheck (Operand.tmp 172)
                    refine wpMono_take' 21 (v := ?_) rfl (by kernel_rfl) (by kernel_rfl) (by kernel_rfl) (fun _ _ _ h => h) (by rfl) ?_ ?_
                    rotate_left
                    · (intro W hSw; have hcW := hSw.cells; try simp only [World.size_drew, World.cell?_drew] at hcW
                       go_simp; first | done | rfl)
                    try simp only [Act.put, List.setIfInBounds_toArray, List.set_cons_zero, List.set_cons_succ]
                    -- 22 Op.fieldAddr 49 (Operand.tmp 173) 0
                    refine wpMono_take' 22 (v := ?_) rfl (by kernel_rfl) (by kernel_rfl) (by kernel_rfl) (fun _ _ _ h => h) (by rfl) ?_ ?_
                    rotate_left
                    · (intro W hSw; have hcW := hSw.cells; try simp only [World.size_drew, World.cell?_drew] at hcW
                       go_simp; first | done | rfl)
                    try simp only [Act.put, List.setIfInBounds_toArray, List.set_cons_zero, List.set_cons_succ]
                    -- 23 Op.load 35 (Operand.tmp 174)
                    refine wpMono_take' 23 (v := ?_) rfl (by kernel_rfl) (by kernel_rfl) (by kernel_rfl) (fun _ _ _ h => h) (by rfl) ?_ ?_
                    rotate_left
                    · (intro W hSw; have hcW := hSw.cells; try simp only [World.size_drew, World.cell?_drew] at hcW
                       go_simp; first | done | rfl)
                    try simp only [Act.put, List.setIfInBounds_toArray, List.set_cons_zero, List.set_cons_succ]
                    -- EFFECT 19 Op.call { callee := Callee.value (Operand.func 13), args := #[Operand.tmp 170], argTypes := #[26] }
                    refine wpMono_one' 19 (by kernel_rfl) rfl (by rfl) (fun K hK => ?_)
                    go_simp
                    refine (list_any g b (learnL L ou on) _ (HT.out.keeps (X := nobody) .drew (fun h => h) (fun h => h)) (by have := HGM.out.2.1; omega) (user_small HGM.out)).mono ?_
                    rintro e wB ⟨lA, lc, rfl, hown, hbB⟩
                    have HE1 := Lib.hid (eps_own hown)
                    have hbB' := below_ofDrew hbB
                    have HR2 := Lib.hid (HR.out.below hbB')
                    have HT2 := Lib.hid (HT.out.below hbB')
                    have HBB := Lib.hid hbB'
                    clear hown hbB'
                    refine hK.out _ _ ?_ ?_
                    · exact .of_below hbB
                    clear hK K
                    try simp only [Act.put, List.setIfInBounds_toArray, List.set_cons_zero, List.set_cons_succ]
                    -- EFFECT 24 Op.call { callee := Callee.value (Operand.func 15), args := #[Operand.tmp 171, Operand.tmp 175], argTypes := #[35, 35] }
                    refine wpMono_one' 24 (by kernel_rfl) rfl (by rfl) (fun K hK => ?_)
                    go_simp
                    refine (same_any _ _ _ _ _ _ _ HE1.out HR2.out.eps).mono ?_
                    rintro e wC ⟨rfl, hbC⟩
                    refine hK.out _ _ ?_ ?_
                    · exact .of_below hbC
                    clear hK K
                    try simp only [Act.put, List.setIfInBounds_toArray, List.set_cons_zero, List.set_cons_succ]
                    -- 25 Op.unOp UnOp.not 4 (Operand.tmp 176)
                    refine wpMono_take' 25 (v := ?_) rfl (by kernel_rfl) (by kernel_rfl) (by kernel_rfl) (fun _ _ _ h => h) (by rfl) ?_ ?_
                    rotate_left
                    · (intro W hSw; have hcW := hSw.cells; try simp only [World.size_drew, World.cell?_drew] at hcW
                       go_simp; first | done | rfl)
                    try simp only [Act.put, List.setIfInBounds_toArray, List.set_cons_zero, List.set_cons_succ]
                    -- 26 Op.pick (Operand.tmp 169) (Operand.const (Value.bool true)) (Operand.tmp 177)
                    refine wpMono_take' 26 (v := ?_) rfl (by kernel_rfl) (by kernel_rfl) (by kernel_rfl) (fun _ _ _ h => h) (by rfl) ?_ ?_
                    rotate_left
                    · (intro W hSw; have hcW := hSw.cells; try simp only [World.size_drew, World.cell?_drew] at hcW
                       go_simp; first | done | rfl)
                    try simp only [Act.put, List.setIfInBounds_toArray, List.set_cons_zero, List.set_cons_succ]
                    refine wpMono_done (by kernel_rfl) ?_ _
                    have HT3 := Lib.hid (HT2.out.below hbC)
                    have HR3 := Lib.hid (HR2.out.below hbC)
                    have HB3 := Lib.hid (below_step Hfin.out.2 (below_step HBB.out hbC))
                    clear hbB hbC
                    go_wp2
                    go_roundw
                    case rel => exact ⟨k + 1, (learnL L ou on), A2, c2', by omega, by go_num, Hfin.out.1, HT3.out, HR3.out, HB3.out⟩
                    case measure => simp [intOf]; omega
                  · have hn0 : ok6 = false := by rw [Hok6.out]; simp [hn]
                    subst hn0
                    subst hq
                    have HR := Lib.hid (show RT w6 w4.heap.size w3.heap.size A c (learnL L ou on) by rw [Hq1.out hn]; exact HR6.out)
                    obtain ⟨A2, rfl⟩ : ∃ A2, A2 = A := ⟨_, rfl⟩
                    obtain ⟨c2', rfl⟩ : ∃ c2', c2' = c := ⟨_, rfl⟩
                    have HT := HT6
                    have HO := HO6
                    have HB := Hb6
                    obtain rfl := eo_none He6.out
                    have htold := told_any .nilIface 0 w6 (.nil _)
                    have Htold := Lib.hid htold
                    clear hn htold Hra HR6 Hq0 Hq1 Hq2 Hok6
                    go_wp2_with fail
                    refine (Htold.out).mono ?_
                    rintro e w8 ⟨rfl, rfl⟩
                    -- the round's end: what the table has, is what the document says
                    have hr0 := HR.out.1.cell 0
                    have hr1 := HR.out.1.lt
                    have ho1 : w6.cell? ⟨wr.heap.size, 1, none⟩ = _ := HO.out.cell 1
                    have ho2 := HO.out.lt
                    simp at hr0 ho1
                    have hz0 := fun w h => tab.get_any g b (learnL L ou on) ou w h Hou.out
                    have hz1 := fun w h => reft.get_any w4.heap.size w3.heap.size c2' A2 (learnL L ou on) ou w h
                    have hmn := Hmono.out
                    generalize getL (learnL L ou on) ou = z2 at hz0 hz1 hmn
                    generalize getL L ou = z1 at hmn ⊢
                    have hlss : decide (z2 < z1) = false := by simp; omega
                    have Hz0 := Lib.hid hz0
                    have Hz1 := Lib.hid hz1
                    have Hfin := Lib.hid (And.intro HGM.out HB.out)
                    clear hz0 hz1 hmn Hmono
                    go_wp2_with fail
                    refine wp_region_mono nobody (by kernel_rfl) ?_
                    -- 0 Op.move (Operand.tmp 7)
                    refine wpMono_take' 0 (v := ?_) rfl (by kernel_rfl) (by kernel_rfl) (by kernel_rfl) (fun _ _ _ h => h) (by rfl) ?_ ?_
                    rotate_left
                    · (intro W hSw; have hcW := hSw.cells; try simp only [World.size_drew, World.cell?_drew] at hcW
                       go_simp; first | done | rfl)
                    try simp only [Act.put, List.setIfInBounds_toArray, List.set_cons_zero, List.set_cons_succ]
                    -- 1 Op.fieldAddr 32 (Operand.tmp 11) 1
                    refine wpMono_take' 1 (v := ?_) rfl (by kernel_rfl) (by kernel_rfl) (by kernel_rfl) (fun _ _ _ h => h) (by rfl) ?_ ?_
                    rotate_left
                    · (intro W hSw; have hcW := hSw.cells; try simp only [World.size_drew, World.cell?_drew] at hcW
                       go_simp; first | done | rfl)
                    try simp only [Act.put, List.setIfInBounds_toArray, List.set_cons_zero, List.set_cons_succ]
                    -- 2 Op.load 9 (Operand.tmp 153)
                    refine wpMono_take' 2 (v := ?_) rfl (by kernel_rfl) (by kernel_rfl) (by kernel_rfl) (fun _ _ _ h => h) (by rfl) ?_ ?_
                    rotate_left
                    · (intro W hSw; have hcW := hSw.cells; try simp only [World.size_drew, World.cell?_drew] at hcW
                       go_simp; first | done | rfl)
                    try simp only [Act.put, List.setIfInBounds_toArray, List.set_cons_zero, List.set_cons_succ]
                    -- 4 Op.move (Operand.tmp 9)
                    refine wpMono_take' 4 (v := ?_) rfl (by kernel_rfl) (by kernel_rfl) (by kernel_rfl) (fun _ _ _ h => h) (by rfl) ?_ ?_
                    rotate_left
                    · (intro W hSw; have hcW := hSw.cells; try simp only [World.size_drew, World.cell?_drew] at hcW
                       go_simp; first | done | rfl)
                    try simp only [Act.put, List.setIfInBounds_toArray, List.set_cons_zero, List.set_cons_succ]
                    -- 5 Op.fieldAddr 32 (Operand.tmp 11) 1
                    refine wpMono_take' 5 (v := ?_) rfl (by kernel_rfl) (by kernel_rfl) (by kernel_rfl) (fun _ _ _ h => h) (by rfl) ?_ ?_
                    rotate_left
                    · (intro W hSw; have hcW := hSw.cells; try simp only [World.size_drew, World.cell?_drew] at hcW
                       go_simp; first | done | rfl)
                    try simp only [Act.put, List.setIfInBounds_toArray, List.set_cons_zero, List.set_cons_succ]
                    -- 6 Op.load 9 (Operand.tmp 157)
                    refine wpMono_take' 6 (v := ?_) rfl (by kernel_rfl) (by kernel_rfl) (by kernel_rfl) (fun _ _ _ h => h) (by rfl) ?_ ?_
                    rotate_left
                    · (intro W hSw; have hcW := hSw.cells; try simp only [World.size_drew, World.cell?_drew] at hcW
                       go_simp; first | done | rfl)
                    try simp only [Act.put, List.setIfInBounds_toArray, List.set_cons_zero, List.set_cons_succ]
                    -- EFFECT 3 Op.call { callee := Callee.value (Operand.func 14), args := #[Operand.tmp 152, Operand.tmp 154], argTypes := #[26, 9] }
                    refine wpMono_one' 3 (by kernel_rfl) rfl (by rfl) (fun K hK => ?_)
                    go_simp
                    refine (Hz0.out _ (HT.out.keeps (X := nobody) .drew (fun h => h) (fun h => h))).mono ?_
                    rintro e wA ⟨rfl, rfl⟩
                    refine hK.out _ _ ?_ ?_
                    · exact .refl _ _
                    clear hK K
                    try simp only [Act.put, List.setIfInBounds_toArray, List.set_cons_zero, List.set_cons_succ]
                    -- EFFECT 7 Op.call { callee := Callee.value (Operand.func 24), args := #[Operand.tmp 156, Operand.tmp 158], argTypes := #[47, 9] }
                    refine wpMono_one' 7 (by kernel_rfl) rfl (by rfl) (fun K hK => ?_)
                    go_simp
                    refine (Hz1.out _ (HR.out.keeps (X := nobody) .drew (fun h => h) (fun _ _ _ h => h))).mono ?_
                    rintro e wA ⟨rfl, rfl⟩
                    refine hK.out _ _ ?_ ?_
                    · exact .refl _ _
                    clear hK K
                    try simp only [Act.put, List.setIfInBounds_toArray, List.set_cons_zero, List.set_cons_succ]
                    -- 8 Op.binOp BinOp.neq 3 (Operand.tmp 155) (Operand.tmp 159) 3
                    refine wpMono_take' 8 (v := ?_) rfl (by kernel_rfl) (by kernel_rfl) (by kernel_rfl) (fun _ _ _ h => h) (by rfl) ?_ ?_
                    rotate_left
                    · (intro W hSw; have hcW := hSw.cells; try simp only [World.size_drew, World.cell?_drew] at hcW
                       go_simp; first | done | rfl)
                    try simp only [Act.put, List.setIfInBounds_toArray, List.set_cons_zero, List.set_cons_succ]
                    -- 9 Op.move (Operand.tmp 160)
                    refine wpMono_take' 9 (v := ?_) rfl (by kernel_rfl) (by kernel_rfl) (by kernel_rfl) (fun _ _ _ h => h) (by rfl) ?_ ?_
                    rotate_left
                    · (intro W hSw; have hcW := hSw.cells; try simp only [World.size_drew, World.cell?_drew] at hcW
                       go_simp; first | done | rfl)
                    try simp only [Act.put, List.setIfInBounds_toArray, List.set_cons_zero, List.set_cons_succ]
                    -- 10 Op.move (Operand.tmp 7)
                    refine wpMono_take' 10 (v := ?_) rfl (by kernel_rfl) (by kernel_rfl) (by kernel_rfl) (fun _ _ _ h => h) (by rfl) ?_ ?_
                    rotate_left
                    · (intro W hSw; have hcW := hSw.cells; try simp only [World.size_drew, World.cell?_drew] at hcW
                       go_simp; first | done | rfl)
                    try simp only [Act.put, List.setIfInBounds_toArray, List.set_cons_zero, List.set_cons_succ]
                    -- 11 Op.fieldAddr 32 (Operand.tmp 11) 1
                    refine wpMono_take' 11 (v := ?_) rfl (by kernel_rfl) (by kernel_rfl) (by kernel_rfl) (fun _ _ _ h => h) (by rfl) ?_ ?_
                    rotate_left
                    · (intro W hSw; have hcW := hSw.cells; try simp only [World.size_drew, World.cell?_drew] at hcW
                       go_simp; first | done | rfl)
                    try simp only [Act.put, List.setIfInBounds_toArray, List.set_cons_zero, List.set_cons_succ]
                    -- 12 Op.load 9 (Operand.tmp 163)
                    refine wpMono_take' 12 (v := ?_) rfl (by kernel_rfl) (by kernel_rfl) (by kernel_rfl) (fun _ _ _ h => h) (by rfl) ?_ ?_
                    rotate_left
                    · (intro W hSw; have hcW := hSw.cells; try simp only [World.size_drew, World.cell?_drew] at hcW
                       go_simp; first | done | rfl)
                    try simp only [Act.put, List.setIfInBounds_toArray, List.set_cons_zero, List.set_cons_succ]
                    -- 14 Op.move (Operand.tmp 12)
                    refine wpMono_take' 14 (v := ?_) rfl (by kernel_rfl) (by kernel_rfl) (by kernel_rfl) (fun _ _ _ h => h) (by rfl) ?_ ?_
                    rotate_left
                    · (intro W hSw; have hcW := hSw.cells; try simp only [World.size_drew, World.cell?_drew] at hcW
                       go_simp; first | done | rfl)
                    try simp only [Act.put, List.setIfInBounds_toArray, List.set_cons_zero, List.set_cons_succ]
                    -- EFFECT 13 Op.call { callee := Callee.value (Operand.func 14), args := #[Operand.tmp 162, Operand.tmp 164], argTypes := #[26, 9] }
                    refine wpMono_one' 13 (by kernel_rfl) rfl (by rfl) (fun K hK => ?_)
                    go_simp
                    refine (Hz0.out _ (HT.out.keeps (X := nobody) .drew (fun h => h) (fun h => h))).mono ?_
                    rintro e wA ⟨rfl, rfl⟩
                    refine hK.out _ _ ?_ ?_
                    · exact .refl _ _
                    clear hK K
                    try simp only [Act.put, List.setIfInBounds_toArray, List.set_cons_zero, List.set_cons_succ]
                    -- 15 Op.binOp BinOp.lss 3 (Operand.tmp 165) (Operand.tmp 166) 3
                    refine wpMono_take' 15 (v := ?_) rfl (by kernel_rfl) (by kernel_rfl) (by kernel_rfl) (fun _ _ _ h => h) (by rfl) ?_ ?_
                    rotate_left
                    · (intro W hSw; have hcW := hSw.cells; try simp only [World.size_drew, World.cell?_drew] at hcW
                       go_simp; first | done | rfl)
                    try simp only [Act.put, List.setIfInBounds_toArray, List.set_cons_zero, List.set_cons_succ]
                    -- 16 Op.pick (Operand.tmp 161) (Operand.const (Value.bool true)) (Operand.tmp 167)
                    refine wpMono_take' 16 (v := ?_) rfl (by kernel_rfl) (by kernel_rfl) (by kernel_rfl) (fun _ _ _ h => h) (by rfl) ?_ ?_
                    rotate_left
                    · (intro W hSw; have hcW := hSw.cells; try simp only [World.size_drew, World.cell?_drew] at hcW
                       go_simp; first | done | rfl)
                    try simp only [Act.put, List.setIfInBounds_toArray, List.set_cons_zero, List.set_cons_succ]
                    -- 17 Op.move (Operand.tmp 168)
                    refine wpMono_take' 17 (v := ?_) rfl (by kernel_rfl) (by kernel_rfl) (by kernel_rfl) (fun _ _ _ h => h) (by rfl) ?_ ?_
                    rotate_left
                    · (intro W hSw; have hcW := hSw.cells; try simp only [World.size_drew, World.cell?_drew] at hcW
                       go_simp; first | done | rfl)
                    try simp only [Act.put, List.setIfInBounds_toArray, List.set_cons_zero, List.set_cons_succ]
                    -- 18 Op.move (Operand.tmp 7)
                    refine wpMono_take' 18 (v := ?_) rfl (by kernel_rfl) (by kernel_rfl) (by kernel_rfl) (fun _ _ _ h => h) (by rfl) ?_ ?_
                    rotate_left
                    · (intro W hSw; have hcW := hSw.cells; try simp only [World.size_drew, World.cell?_drew] at hcW
                       go_simp; first | done | rfl)
                    try simp only [Act.put, List.setIfInBounds_toArray, List.set_cons_zero, List.set_cons_succ]
                    -- 20 Op.move (Operand.tmp 9)
                    refine wpMono_take' 20 (v := ?_) rfl (by kernel_rfl) (by kernel_rfl) (by kernel_rfl) (fun _ _ _ h => h) (by rfl) ?_ ?_
                    rotate_left
                    · (intro W hSw; have hcW := hSw.cells; try simp only [World.size_drew, World.cell?_drew] at hcW
                       go_simp; first | done | rfl)
                    try simp only [Act.put, List.setIfInBounds_toArray, List.set_cons_zero, List.set_cons_succ]
                    -- 21 Op.nilCheck (Operand.tmp 172)
                    refine wpMono_take' 21 (v := ?_) rfl (by kernel_rfl) (by kernel_rfl) (by kernel_rfl) (fun _ _ _ h => h) (by rfl) ?_ ?_
                    rotate_left
                    · (intro W hSw; have hcW := hSw.cells; try simp only [World.size_drew, World.cell?_drew] at hcW
                       go_simp; first | done | rfl)
                    try simp only [Act.put, List.setIfInBounds_toArray, List.set_cons_zero, List.set_cons_succ]
                    -- 22 Op.fieldAddr 49 (Operand.tmp 173) 0
                    refine wpMono_take' 22 (v := ?_) rfl (by kernel_rfl) (by kernel_rfl) (by kernel_rfl) (fun _ _ _ h => h) (by rfl) ?_ ?_
                    rotate_left
                    · (intro W hSw; have hcW := hSw.cells; try simp only [World.size_drew, World.cell?_drew] at hcW
                       go_simp; first | done | rfl)
                    try simp only [Act.put, List.setIfInBounds_toArray, List.set_cons_zero, List.set_cons_succ]
                    -- 23 Op.load 35 (Operand.tmp 174)
                    refine wpMono_take' 23 (v := ?_) rfl (by kernel_rfl) (by kernel_rfl) (by kernel_rfl) (fun _ _ _ h => h) (by rfl) ?_ ?_
                    rotate_left
                    · (intro W hSw; have hcW := hSw.cells; try simp only [World.size_drew, World.cell?_drew] at hcW
                       go_simp; first | done | rfl)
                    try simp only [Act.put, List.setIfInBounds_toArray, List.set_cons_zero, List.set_cons_succ]
                    -- EFFECT 19 Op.call { callee := Callee.value (Operand.func 13), args := #[Operand.tmp 170], argTypes := #[26] }
                    refine wpMono_one' 19 (by kernel_rfl) rfl (by rfl) (fun K hK => ?_)
                    go_simp
                    refine (list_any g b (learnL L ou on) _ (HT.out.keeps (X := nobody) .drew (fun h => h) (fun h => h)) (by have := HGM.out.2.1; omega) (user_small HGM.out)).mono ?_
                    rintro e wB ⟨lA, lc, rfl, hown, hbB⟩
                    have HE1 := Lib.hid (eps_own hown)
                    have hbB' := below_ofDrew hbB
                    have HR2 := Lib.hid (HR.out.below hbB')
                    have HT2 := Lib.hid (HT.out.below hbB')
                    have HBB := Lib.hid hbB'
                    clear hown hbB'
                    refine hK.out _ _ ?_ ?_
                    · exact .of_below hbB
                    clear hK K
                    try simp only [Act.put, List.setIfInBounds_toArray, List.set_cons_zero, List.set_cons_succ]
                    -- EFFECT 24 Op.call { callee := Callee.value (Operand.func 15), args := #[Operand.tmp 171, Operand.tmp 175], argTypes := #[35, 35] }
                    refine wpMono_one' 24 (by kernel_rfl) rfl (by rfl) (fun K hK => ?_)
                    go_simp
                    refine (same_any _ _ _ _ _ _ _ HE1.out HR2.out.eps).mono ?_
                    rintro e wC ⟨rfl, hbC⟩
                    refine hK.out _ _ ?_ ?_
                    · exact .of_below hbC
                    clear hK K
                    try simp only [Act.put, List.setIfInBounds_toArray, List.set_cons_zero, List.set_cons_succ]
                    -- 25 Op.unOp UnOp.not 4 (Operand.tmp 176)
                    refine wpMono_take' 25 (v := ?_) rfl (by kernel_rfl) (by kernel_rfl) (by kernel_rfl) (fun _ _ _ h => h) (by rfl) ?_ ?_
                    rotate_left
                    · (intro W hSw; have hcW := hSw.cells; try simp only [World.size_drew, World.cell?_drew] at hcW
                       go_simp; first | done | rfl)
                    try simp only [Act.put, List.setIfInBounds_toArray, List.set_cons_zero, List.set_cons_succ]
                    -- 26 Op.pick (Operand.tmp 169) (Operand.const (Value.bool true)) (Operand.tmp 177)
                    refine wpMono_take' 26 (v := ?_) rfl (by kernel_rfl) (by kernel_rfl) (by kernel_rfl) (fun _ _ _ h => h) (by rfl) ?_ ?_
                    rotate_left
                    · (intro W hSw; have hcW := hSw.cells; try simp only [World.size_drew, World.cell?_drew] at hcW
                       go_simp; first | done | rfl)
                    try simp only [Act.put, List.setIfInBounds_toArray, List.set_cons_zero, List.set_cons_succ]
                    refine wpMono_done (by kernel_rfl) ?_ _
                    have HT3 := Lib.hid (HT2.out.below hbC)
                    have HR3 := Lib.hid (HR2.out.below hbC)
                    have HB3 := Lib.hid (below_step Hfin.out.2 (below_step HBB.out hbC))
                    clear hbB hbC
                    go_wp2
                    go_roundw
                    case rel => exact ⟨k + 1, (learnL L ou on), A2, c2', by omega, by go_num, Hfin.out.1, HT3.out, HR3.out, HB3.out⟩
                    case measure => simp [intOf]; omega
                  · have hn0 : ok6 = true := by rw [Hok6.out]; simp [hq]; omega
                    subst hn0
                    subst hq
                    have HR := Lib.hid (show RT w7 w4.heap.size w3.heap.size A2 c2' (learnL L ou on) by rw [Hq2.out rfl (by omega)]; exact hR7)
                    have HT := Lib.hid (HT6.out.keeps hk7 (fun h => by have h : _ = _ := h; omega) (fun h => by have h : _ = _ := h; omega))
                    have HO := Lib.hid (HO6.out.keeps hk7 (fun h => by have h : _ = _ := h; omega))
                    have HB := Lib.hid (below_kept Hb6.out hk7 (fun i hi => by omega))
                    obtain rfl := eo_none He6.out
                    have htold := told_any .nilIface 0 w7 (.nil _)
                    have Htold := Lib.hid htold
                    clear hn htold Hra HR6 Hq0 Hq1 Hq2 Hok6 hk7 hR7 q1 q2 q3
                    go_wp2_with fail
                    refine (Htold.out).mono ?_
                    rintro e w8 ⟨rfl, rfl⟩
                    -- the round's end: what the table has, is what the document says
                    have hr0 := HR.out.1.cell 0
                    have hr1 := HR.out.1.lt
                    have ho1 : w7.cell? ⟨wr.heap.size, 1, none⟩ = _ := HO.out.cell 1
                    have ho2 := HO.out.lt
                    simp at hr0 ho1
                    have hz0 := fun w h => tab.get_any g b (learnL L ou on) ou w h Hou.out
                    have hz1 := fun w h => reft.get_any w4.heap.size w3.heap.size c2' A2 (learnL L ou on) ou w h
                    have hmn := Hmono.out
                    generalize getL (learnL L ou on) ou = z2 at hz0 hz1 hmn
                    generalize getL L ou = z1 at hmn ⊢
                    have hlss : decide (z2 < z1) = false := by simp; omega
                    have Hz0 := Lib.hid hz0
                    have Hz1 := Lib.hid hz1
                    have Hfin := Lib.hid (And.intro HGM.out HB.out)
                    clear hz0 hz1 hmn Hmono
                    go_wp2_with fail
                    refine wp_region_mono nobody (by kernel_rfl) ?_
                    -- 0 Op.move (Operand.tmp 7)
                    refine wpMono_take' 0 (v := ?_) rfl (by kernel_rfl) (by kernel_rfl) (by kernel_rfl) (fun _ _ _ h => h) (by rfl) ?_ ?_
                    rotate_left
                    · (intro W hSw; have hcW := hSw.cells; try simp only [World.size_drew, World.cell?_drew] at hcW
                       go_simp; first | done | rfl)
                    try simp only [Act.put, List.setIfInBounds_toArray, List.set_cons_zero, List.set_cons_succ]
                    -- 1 Op.fieldAddr 32 (Operand.tmp 11) 1
                    refine wpMono_take' 1 (v := ?_) rfl (by kernel_rfl) (by kernel_rfl) (by kernel_rfl) (fun _ _ _ h => h) (by rfl) ?_ ?_
                    rotate_left
                    · (intro W hSw; have hcW := hSw.cells; try simp only [World.size_drew, World.cell?_drew] at hcW
                       go_simp; first | done | rfl)
                    try simp only [Act.put, List.setIfInBounds_toArray, List.set_cons_zero, List.set_cons_succ]
                    -- 2 Op.load 9 (Operand.tmp 153)
                    refine wpMono_take' 2 (v := ?_) rfl (by kernel_rfl) (by kernel_rfl) (by kernel_rfl) (fun _ _ _ h => h) (by rfl) ?_ ?_
                    rotate_left
                    · (intro W hSw; have hcW := hSw.cells; try simp only [World.size_drew, World.cell?_drew] at hcW
                       go_simp; first | done | rfl)
                    try simp only [Act.put, List.setIfInBounds_toArray, List.set_cons_zero, List.set_cons_succ]
                    -- 4 Op.move (Operand.tmp 9)
                    refine wpMono_take' 4 (v := ?_) rfl (by kernel_rfl) (by kernel_rfl) (by kernel_rfl) (fun _ _ _ h => h) (by rfl) ?_ ?_
                    rotate_left
                    · (intro W hSw; have hcW := hSw.cells; try simp only [World.size_drew, World.cell?_drew] at hcW
                       go_simp; first | done | rfl)
                    try simp only [Act.put, List.setIfInBounds_toArray, List.set_cons_zero, List.set_cons_succ]
                    -- 5 Op.fieldAddr 32 (Operand.tmp 11) 1
                    refine wpMono_take' 5 (v := ?_) rfl (by kernel_rfl) (by kernel_rfl) (by kernel_rfl) (fun _ _ _ h => h) (by rfl) ?_ ?_
                    rotate_left
                    · (intro W hSw; have hcW := hSw.cells; try simp only [World.size_drew, World.cell?_drew] at hcW
                       go_simp; first | done | rfl)
                    try simp only [Act.put, List.setIfInBounds_toArray, List.set_cons_zero, List.set_cons_succ]
                    -- 6 Op.load 9 (Operand.tmp 157)
                    refine wpMono_take' 6 (v := ?_) rfl (by kernel_rfl) (by kernel_rfl) (by kernel_rfl) (fun _ _ _ h => h) (by rfl) ?_ ?_
                    rotate_left
                    · (intro W hSw; have hcW := hSw.cells; try simp only [World.size_drew, World.cell?_drew] at hcW
                       go_simp; first | done | rfl)
                    try simp only [Act.put, List.setIfInBounds_toArray, List.set_cons_zero, List.set_cons_succ]
                    -- EFFECT 3 Op.call { callee := Callee.value (Operand.func 14), args := #[Operand.tmp 152, Operand.tmp 154], argTypes := #[26, 9] }
                    refine wpMono_one' 3 (by kernel_rfl) rfl (by rfl) (fun K hK => ?_)
                    go_simp
                    refine (Hz0.out _ (HT.out.keeps (X := nobody) .drew (fun h => h) (fun h => h))).mono ?_
                    rintro e wA ⟨rfl, rfl⟩
                    refine hK.out _ _ ?_ ?_
                    · exact .refl _ _
                    clear hK K
                    try simp only [Act.put, List.setIfInBounds_toArray, List.set_cons_zero, List.set_cons_succ]
                    -- EFFECT 7 Op.call { callee := Callee.value (Operand.func 24), args := #[Operand.tmp 156, Operand.tmp 158], argTypes := #[47, 9] }
                    refine wpMono_one' 7 (by kernel_rfl) rfl (by rfl) (fun K hK => ?_)
                    go_simp
                    refine (Hz1.out _ (HR.out.keeps (X := nobody) .drew (fun h => h) (fun _ _ _ h => h))).mono ?_
                    rintro e wA ⟨rfl, rfl⟩
                    refine hK.out _ _ ?_ ?_
                    · exact .refl _ _
                    clear hK K
                    try simp only [Act.put, List.setIfInBounds_toArray, List.set_cons_zero, List.set_cons_succ]
                    -- 8 Op.binOp BinOp.neq 3 (Operand.tmp 155) (Operand.tmp 159) 3
                    refine wpMono_take' 8 (v := ?_) rfl (by kernel_rfl) (by kernel_rfl) (by kernel_rfl) (fun _ _ _ h => h) (by rfl) ?_ ?_
                    rotate_left
                    · (intro W hSw; have hcW := hSw.cells; try simp only [World.size_drew, World.cell?_drew] at hcW
                       go_simp; first | done | rfl)
                    try simp only [Act.put, List.setIfInBounds_toArray, List.set_cons_zero, List.set_cons_succ]
                    -- 9 Op.move (Operand.tmp 160)
                    refine wpMono_take' 9 (v := ?_) rfl (by kernel_rfl) (by kernel_rfl) (by kernel_rfl) (fun _ _ _ h => h) (by rfl) ?_ ?_
                    rotate_left
                    · (intro W hSw; have hcW := hSw.cells; try simp only [World.size_drew, World.cell?_drew] at hcW
                       go_simp; first | done | rfl)
                    try simp only [Act.put, List.setIfInBounds_toArray, List.set_cons_zero, List.set_cons_succ]
                    -- 10 Op.move (Operand.tmp 7)
                    refine wpMono_take' 10 (v := ?_) rfl (by kernel_rfl) (by kernel_rfl) (by kernel_rfl) (fun _ _ _ h => h) (by rfl) ?_ ?_
                    rotate_left
                    · (intro W hSw; have hcW := hSw.cells; try simp only [World.size_drew, World.cell?_drew] at hcW
                       go_simp; first | done | rfl)
                    try simp only [Act.put, List.setIfInBounds_toArray, List.set_cons_zero, List.set_cons_succ]
                    -- 11 Op.fieldAddr 32 (Operand.tmp 11) 1
                    refine wpMono_take' 11 (v := ?_) rfl (by kernel_rfl) (by kernel_rfl) (by kernel_rfl) (fun _ _ _ h => h) (by rfl) ?_ ?_
                    rotate_left
                    · (intro W hSw; have hcW := hSw.cells; try simp only [World.size_drew, World.cell?_drew] at hcW
                       go_simp; first | done | rfl)
                    try simp only [Act.put, List.setIfInBounds_toArray, List.set_cons_zero, List.set_cons_succ]
                    -- 12 Op.load 9 (Operand.tmp 163)
                    refine wpMono_take' 12 (v := ?_) rfl (by kernel_rfl) (by kernel_rfl) (by kernel_rfl) (fun _ _ _ h => h) (by rfl) ?_ ?_
                    rotate_left
                    · (intro W hSw; have hcW := hSw.cells; try simp only [World.size_drew, World.cell?_drew] at hcW
                       go_simp; first | done | rfl)
                    try simp only [Act.put, List.setIfInBounds_toArray, List.set_cons_zero, List.set_cons_succ]
                    -- 14 Op.move (Operand.tmp 12)
                    refine wpMono_take' 14 (v := ?_) rfl (by kernel_rfl) (by kernel_rfl) (by kernel_rfl) (fun _ _ _ h => h) (by rfl) ?_ ?_
                    rotate_left
                    · (intro W hSw; have hcW := hSw.cells; try simp only [World.size_drew, World.cell?_drew] at hcW
                       go_simp; first | done | rfl)
                    try simp only [Act.put, List.setIfInBounds_toArray, List.set_cons_zero, List.set_cons_succ]
                    -- EFFECT 13 Op.call { callee := Callee.value (Operand.func 14), args := #[Operand.tmp 162, Operand.tmp 164], argTypes := #[26, 9] }
                    refine wpMono_one' 13 (by kernel_rfl) rfl (by rfl) (fun K hK => ?_)
                    go_simp
                    refine (Hz0.out _ (HT.out.keeps (X := nobody) .drew (fun h => h) (fun h => h))).mono ?_
                    rintro e wA ⟨rfl, rfl⟩
                    refine hK.out _ _ ?_ ?_
                    · exact .refl _ _
                    clear hK K
                    try simp only [Act.put, List.setIfInBounds_toArray, List.set_cons_zero, List.set_cons_succ]
                    -- 15 Op.binOp BinOp.lss 3 (Operand.tmp 165) (Operand.tmp 166) 3
                    refine wpMono_take' 15 (v := ?_) rfl (by kernel_rfl) (by kernel_rfl) (by kernel_rfl) (fun _ _ _ h => h) (by rfl) ?_ ?_
                    rotate_left
                    · (intro W hSw; have hcW := hSw.cells; try simp only [World.size_drew, World.cell?_drew] at hcW
                       go_simp; first | done | rfl)
                    try simp only [Act.put, List.setIfInBounds_toArray, List.set_cons_zero, List.set_cons_succ]
                    -- 16 Op.pick (Operand.tmp 161) (Operand.const (Value.bool true)) (Operand.tmp 167)
                    refine wpMono_take' 16 (v := ?_) rfl (by kernel_rfl) (by kernel_rfl) (by kernel_rfl) (fun _ _ _ h => h) (by rfl) ?_ ?_
                    rotate_left
                    · (intro W hSw; have hcW := hSw.cells; try simp only [World.size_drew, World.cell?_drew] at hcW
                       go_simp; first | done | rfl)
                    try simp only [Act.put, List.setIfInBounds_toArray, List.set_cons_zero, List.set_cons_succ]
                    -- 17 Op.move (Operand.tmp 168)
                    refine wpMono_take' 17 (v := ?_) rfl (by kernel_rfl) (by kernel_rfl) (by kernel_rfl) (fun _ _ _ h => h) (by rfl) ?_ ?_
                    rotate_left
                    · (intro W hSw; have hcW := hSw.cells; try simp only [World.size_drew, World.cell?_drew] at hcW
                       go_simp; first | done | rfl)
                    try simp only [Act.put, List.setIfInBounds_toArray, List.set_cons_zero, List.set_cons_succ]
                    -- 18 Op.move (Operand.tmp 7)
                    refine wpMono_take' 18 (v := ?_) rfl (by kernel_rfl) (by kernel_rfl) (by kernel_rfl) (fun _ _ _ h => h) (by rfl) ?_ ?_
                    rotate_left
                    · (intro W hSw; have hcW := hSw.cells; try simp only [World.size_drew, World.cell?_drew] at hcW
                       go_simp; first | done | rfl)
                    try simp only [Act.put, List.setIfInBounds_toArray, List.set_cons_zero, List.set_cons_succ]
                    -- 20 Op.move (Operand.tmp 9)
                    refine wpMono_take' 20 (v := ?_) rfl (by kernel_rfl) (by kernel_rfl) (by kernel_rfl) (fun _ _ _ h => h) (by rfl) ?_ ?_
                    rotate_left
                    · (intro W hSw; have hcW := hSw.cells; try simp only [World.size_drew, World.cell?_drew] at hcW
                       go_simp; first | done | rfl)
                    try simp only [Act.put, List.setIfInBounds_toArray, List.set_cons_zero, List.set_cons_succ]
                    -- 21 Op.nilCheck (Operand.tmp 172)
                    refine wpMono_take' 21 (v := ?_) rfl (by kernel_rfl) (by kernel_rfl) (by kernel_rfl) (fun _ _ _ h => h) (by rfl) ?_ ?_
                    rotate_left
                    · (intro W hSw; have hcW := hSw.cells; try simp only [World.size_drew, World.cell?_drew] at hcW
                       go_simp; first | done | rfl)
                    try simp only [Act.put, List.setIfInBounds_toArray, List.set_cons_zero, List.set_cons_succ]
                    -- 22 Op.fieldAddr 49 (Operand.tmp 173) 0
                    refine wpMono_take' 22 (v := ?_) rfl (by kernel_rfl) (by kernel_rfl) (by kernel_rfl) (fun _ _ _ h => h) (by rfl) ?_ ?_
                    rotate_left
                    · (intro W hSw; have hcW := hSw.cells; try simp only [World.size_drew, World.cell?_drew] at hcW
                       go_simp; first | done | rfl)
                    try simp only [Act.put, List.setIfInBounds_toArray, List.set_cons_zero, List.set_cons_succ]
                    -- 23 Op.load 35 (Operand.tmp 174)
                    refine wpMono_take' 23 (v := ?_) rfl (by kernel_rfl) (by kernel_rfl) (by kernel_rfl) (fun _ _ _ h => h) (by rfl) ?_ ?_
                    rotate_left
                    · (intro W hSw; have hcW := hSw.cells; try simp only [World.size_drew, World.cell?_drew] at hcW
                       go_simp; first | done | rfl)
                    try simp only [Act.put, List.setIfInBounds_toArray, List.set_cons_zero, List.set_cons_succ]
                    -- EFFECT 19 Op.call { callee := Callee.value (Operand.func 13), args := #[Operand.tmp 170], argTypes := #[26] }
                    refine wpMono_one' 19 (by kernel_rfl) rfl (by rfl) (fun K hK => ?_)
                    go_simp
                    refine (list_any g b (learnL L ou on) _ (HT.out.keeps (X := nobody) .drew (fun h => h) (fun h => h)) (by have := HGM.out.2.1; omega) (user_small HGM.out)).mono ?_
                    rintro e wB ⟨lA, lc, rfl, hown, hbB⟩
                    have HE1 := Lib.hid (eps_own hown)
                    have hbB' := below_ofDrew hbB
                    have HR2 := Lib.hid (HR.out.below hbB')
                    have HT2 := Lib.hid (HT.out.below hbB')
                    have HBB := Lib.hid hbB'
                    clear hown hbB'
                    refine hK.out _ _ ?_ ?_
                    · exact .of_below hbB
                    clear hK K
                    try simp only [Act.put, List.setIfInBounds_toArray, List.set_cons_zero, List.set_cons_succ]
                    -- EFFECT 24 Op.call { callee := Callee.value (Operand.func 15), args := #[Operand.tmp 171, Operand.tmp 175], argTypes := #[35, 35] }
                    refine wpMono_one' 24 (by kernel_rfl) rfl (by rfl) (fun K hK => ?_)
                    go_simp
                    refine (same_any _ _ _ _ _ _ _ HE1.out HR2.out.eps).mono ?_
                    rintro e wC ⟨rfl, hbC⟩
                    refine hK.out _ _ ?_ ?_
                    · exact .of_below hbC
                    clear hK K
                    try simp only [Act.put, List.setIfInBounds_toArray, List.set_cons_zero, List.set_cons_succ]
                    -- 25 Op.unOp UnOp.not 4 (Operand.tmp 176)
                    refine wpMono_take' 25 (v := ?_) rfl (by kernel_rfl) (by kernel_rfl) (by kernel_rfl) (fun _ _ _ h => h) (by rfl) ?_ ?_
                    rotate_left
                    · (intro W hSw; have hcW := hSw.cells; try simp only [World.size_drew, World.cell?_drew] at hcW
                       go_simp; first | done | rfl)
                    try simp only [Act.put, List.setIfInBounds_toArray, List.set_cons_zero, List.set_cons_succ]
                    -- 26 Op.pick (Operand.tmp 169) (Operand.const (Value.bool true)) (Operand.tmp 177)
                    refine wpMono_take' 26 (v := ?_) rfl (by kernel_rfl) (by kernel_rfl) (by kernel_rfl) (fun _ _ _ h => h) (by rfl) ?_ ?_
                    rotate_left
                    · (intro W hSw; have hcW := hSw.cells; try simp only [World.size_drew, World.cell?_drew] at hcW
                       go_simp; first | done | rfl)
                    try simp only [Act.put, List.setIfInBounds_toArray, List.set_cons_zero, List.set_cons_succ]
                    refine wpMono_done (by kernel_rfl) ?_ _
                    have HT3 := Lib.hid (HT2.out.below hbC)
                    have HR3 := Lib.hid (HR2.out.below hbC)
                    have HB3 := Lib.hid (below_step Hfin.out.2 (below_step HBB.out hbC))
                    clear hbB hbC
                    go_wp2
                    go_roundw
                    case rel => exact ⟨k + 1, (learnL L ou on), A2, c2', by omega, by go_num, Hfin.out.1, HT3.out, HR3.out, HB3.out⟩
                    case measure => simp [intOf]; omega
                · have hb0 : (ok == 0) = false := by simpa using hk0
                  have hb1 : (ok == 1) = false := by simpa using hk1
                  clear hk0 hk1
                  go_wp2_with fail
                  refine wp_region_mono nobody (by kernel_rfl) ?_
                  -- 0 Op.move (Operand.tmp 7)
                  refine wpMono_take' 0 (v := ?_) rfl (by kernel_rfl) (by kernel_rfl) (by kernel_rfl) (fun _ _ _ h => h) (by rfl) ?_ ?_
                  rotate_left
                  · (intro W hSw; have hcW := hSw.cells; try simp only [World.size_drew, World.cell?_drew] at hcW
                     go_simp; first | done | rfl)
                  try simp only [Act.put, List.setIfInBounds_toArray, List.set_cons_zero, List.set_cons_succ]
                  -- 1 Op.fieldAddr 32 (Operand.tmp 11) 1
                  refine wpMono_take' 1 (v := ?_) rfl (by kernel_rfl) (by kernel_rfl) (by kernel_rfl) (fun _ _ _ h => h) (by rfl) ?_ ?_
                  rotate_left
                  · (intro W hSw; have hcW := hSw.cells; try simp only [World.size_drew, World.cell?_drew] at hcW
                     go_simp; first | done | rfl)
                  try simp only [Act.put, List.setIfInBounds_toArray, List.set_cons_zero, List.set_cons_succ]
                  -- 2 Op.load 9 (Operand.tmp 85)
                  refine wpMono_take' 2 (v := ?_) rfl (by kernel_rfl) (by kernel_rfl) (by kernel_rfl) (fun _ _ _ h => h) (by rfl) ?_ ?_
                  rotate_left
                  · (intro W hSw; have hcW := hSw.cells; try simp only [World.size_drew, World.cell?_drew] at hcW
                     go_simp; first | done | rfl)
                  try simp only [Act.put, List.setIfInBounds_toArray, List.set_cons_zero, List.set_cons_succ]
                  -- 3 Op.fieldAddr 32 (Operand.tmp 11) 2
                  refine wpMono_take' 3 (v := ?_) rfl (by kernel_rfl) (by kernel_rfl) (by kernel_rfl) (fun _ _ _ h => h) (by rfl) ?_ ?_
                  rotate_left
                  · (intro W hSw; have hcW := hSw.cells; try simp only [World.size_drew, World.cell?_drew] at hcW
                     go_simp; first | done | rfl)
                  try simp only [Act.put, List.setIfInBounds_toArray, List.set_cons_zero, List.set_cons_succ]
                  -- 4 Op.load 3 (Operand.tmp 87)
                  refine wpMono_take' 4 (v := ?_) rfl (by kernel_rfl) (by kernel_rfl) (by kernel_rfl) (fun _ _ _ h => h) (by rfl) ?_ ?_
                  rotate_left
                  · (intro W hSw; have hcW := hSw.cells; try simp only [World.size_drew, World.cell?_drew] at hcW
                     go_simp; first | done | rfl)
                  try simp only [Act.put, List.setIfInBounds_toArray, List.set_cons_zero, List.set_cons_succ]
                  -- 6 Op.move (Operand.tmp 9)
                  refine wpMono_take' 6 (v := ?_) rfl (by kernel_rfl) (by kernel_rfl) (by kernel_rfl) (fun _ _ _ h => h) (by rfl) ?_ ?_
                  rotate_left
                  · (intro W hSw; have hcW := hSw.cells; try simp only [World.size_drew, World.cell?_drew] at hcW
                     go_simp; first | done | rfl)
                  try simp only [Act.put, List.setIfInBounds_toArray, List.set_cons_zero, List.set_cons_succ]
                  -- 7 Op.fieldAddr 32 (Operand.tmp 11) 1
                  refine wpMono_take' 7 (v := ?_) rfl (by kernel_rfl) (by kernel_rfl) (by kernel_rfl) (fun _ _ _ h => h) (by rfl) ?_ ?_
                  rotate_left
                  · (intro W hSw; have hcW := hSw.cells; try simp only [World.size_drew, World.cell?_drew] at hcW
                     go_simp; first | done | rfl)
                  try simp only [Act.put, List.setIfInBounds_toArray, List.set_cons_zero, List.set_cons_succ]
                  -- 8 Op.load 9 (Operand.tmp 91)
                  refine wpMono_take' 8 (v := ?_) rfl (by kernel_rfl) (by kernel_rfl) (by kernel_rfl) (fun _ _ _ h => h) (by rfl) ?_ ?_
                  rotate_left
                  · (intro W hSw; have hcW := hSw.cells; try simp only [World.size_drew, World.cell?_drew] at hcW
                     go_simp; first | done | rfl)
                  try simp only [Act.put, List.setIfInBounds_toArray, List.set_cons_zero, List.set_cons_succ]
                  -- 9 Op.fieldAddr 32 (Operand.tmp 11) 2
                  refine wpMono_take' 9 (v := ?_) rfl (by kernel_rfl) (by kernel_rfl) (by kernel_rfl) (fun _ _ _ h => h) (by rfl) ?_ ?_
                  rotate_left
                  · (intro W hSw; have hcW := hSw.cells; try simp only [World.size_drew, World.cell?_drew] at hcW
                     go_simp; first | done | rfl)
                  try simp only [Act.put, List.setIfInBounds_toArray, List.set_cons_zero, List.set_cons_succ]
                  -- 10 Op.load 3 (Operand.tmp 93)
                  refine wpMono_take' 10 (v := ?_) rfl (by kernel_rfl) (by kernel_rfl) (by kernel_rfl) (fun _ _ _ h => h) (by rfl) ?_ ?_
                  rotate_left
                  · (intro W hSw; have hcW := hSw.cells; try simp only [World.size_drew, World.cell?_drew] at hcW
                     go_simp; first | done | rfl)
                  try simp only [Act.put, List.setIfInBounds_toArray, List.set_cons_zero, List.set_cons_succ]
                  -- EFFECT 5 Op.call { callee := Callee.value (Operand.func 22), args := #[Operand.tmp 84, Operand.tmp 86, Operand.tmp 88], argTypes := #[26, 9, 3] }
                  refine wpMono_one' 5 (by kernel_rfl) rfl (by rfl) (fun K hK => ?_)
                  go_simp
                  refine (tab.can_any g b L ou on _ (HT2.out.keeps (X := nobody) .drew (fun h => h) (fun h => h)) Hou.out (by have := HG.out.2.1; omega)).mono ?_
                  rintro e w6 ⟨v6, rfl, he6, hb6⟩
                  have hb6' := below_ofDrew hb6
                  have HT := Lib.hid (HT2.out.below hb6')
                  have HR := Lib.hid (HR2.out.below hb6')
                  have HO := Lib.hid (HO.out.below hb6' HO.out.lt)
                  have HB := Lib.hid (below_step Hbw2.out hb6')
                  have He6 := Lib.hid he6
                  have q1 : w6.cell? ⟨wr.heap.size, 1, none⟩ = _ := HO.out.cell 1
                  have q3 : w6.cell? ⟨wr.heap.size, 2, none⟩ = _ := HO.out.cell 2
                  have q2 := HO.out.lt
                  simp at q1 q3
                  clear he6 hb6'
                  refine hK.out _ _ ?_ ?_
                  · exact .of_below hb6
                  clear hK K
                  try simp only [Act.put, List.setIfInBounds_toArray, List.set_cons_zero, List.set_cons_succ]
                  -- EFFECT 11 Op.call { callee := Callee.value (Operand.func 23), args := #[Operand.tmp 90, Operand.tmp 92, Operand.tmp 94], argTypes := #[47, 9, 3] }
                  refine wpMono_one' 11 (by kernel_rfl) rfl (by rfl) (fun K hK => ?_)
                  go_simp
                  refine (reft.can_any w4.heap.size w3.heap.size c A L ou on w6 HR.out).mono ?_
                  rintro e w7 ⟨rfl, rfl⟩
                  refine hK.out _ _ ?_ ?_
                  · exact .refl _ _
                  clear hK K
                  try simp only [Act.put, List.setIfInBounds_toArray, List.set_cons_zero, List.set_cons_succ]
                  -- EFFECT 12 Op.call { callee := Callee.value (Operand.func 20), args := #[Operand.tmp 89, Operand.tmp 95], argTypes := #[28, 3] }
                  refine wpMono_one' 12 (by kernel_rfl) rfl (by rfl) (fun K hK => ?_)
                  go_simp
                  refine (told_any v6 (canC L ou on) w6 He6.out).mono ?_
                  rintro e w7 ⟨rfl, rfl⟩
                  refine hK.out _ _ ?_ ?_
                  · exact .refl _ _
                  clear hK K
                  try simp only [Act.put, List.setIfInBounds_toArray, List.set_cons_zero, List.set_cons_succ]
                  -- 13 Op.unOp UnOp.not 4 (Operand.tmp 96)
                  refine wpMono_take' 13 (v := ?_) rfl (by kernel_rfl) (by kernel_rfl) (by kernel_rfl) (fun _ _ _ h => h) (by rfl) ?_ ?_
                  rotate_left
                  · (intro W hSw; have hcW := hSw.cells; try simp only [World.size_drew, World.cell?_drew] at hcW
                     go_simp; first | done | rfl)
                  try simp only [Act.put, List.setIfInBounds_toArray, List.set_cons_zero, List.set_cons_succ]
                  refine wpMono_done (by kernel_rfl) ?_ _
                  obtain ⟨A2, rfl⟩ : ∃ A2, A2 = A := ⟨_, rfl⟩
                  obtain ⟨c2', rfl⟩ : ∃ c2', c2' = c := ⟨_, rfl⟩
                  obtain ⟨M, hM⟩ : ∃ M, M = L := ⟨_, rfl⟩
                  have HGM : Hid (GoodL M) := Lib.hid (by rw [hM]; exact HG.out)
                  have Hmono : Hid (getL L ou ≤ getL M ou) := Lib.hid (by rw [hM]; exact Int.le_refl _)
                  have HT : Hid (Tab w6 g b M) := Lib.hid (by rw [hM]; exact HT.out)
                  have HR : Hid (RT w6 w4.heap.size w3.heap.size A2 c2' M) := Lib.hid (by rw [hM]; exact HR.out)
                  clear He6 HT2 HR2 Hbw2 hb6 hM
                  -- the round's end: what the table has, is what the document says
                  have hr0 := HR.out.1.cell 0
                  have hr1 := HR.out.1.lt
                  have ho1 : w6.cell? ⟨wr.heap.size, 1, none⟩ = _ := HO.out.cell 1
                  have ho2 := HO.out.lt
                  simp at hr0 ho1
                  have hz0 := fun w h => tab.get_any g b M ou w h Hou.out
                  have hz1 := fun w h => reft.get_any w4.heap.size w3.heap.size c2' A2 M ou w h
                  have hmn := Hmono.out
                  generalize getL M ou = z2 at hz0 hz1 hmn
                  generalize getL L ou = z1 at hmn ⊢
                  have hlss : decide (z2 < z1) = false := by simp; omega
                  have Hz0 := Lib.hid hz0
                  have Hz1 := Lib.hid hz1
                  have Hfin := Lib.hid (And.intro HGM.out HB.out)
                  clear hz0 hz1 hmn Hmono
                  go_wp2_with fail
                  refine wp_region_mono nobody (by kernel_rfl) ?_
                  -- 0 Op.move (Operand.tmp 7)
                  refine wpMono_take' 0 (v := ?_) rfl (by kernel_rfl) (by kernel_rfl) (by kernel_rfl) (fun _ _ _ h => h) (by rfl) ?_ ?_
                  rotate_left
                  · (intro W hSw; have hcW := hSw.cells; try simp only [World.size_drew, World.cell?_drew] at hcW
                     go_simp; first | done | rfl)
                  try simp only [Act.put, List.setIfInBounds_toArray, List.set_cons_zero, List.set_cons_succ]
                  -- 1 Op.fieldAddr 32 (Operand.tmp 11) 1
                  refine wpMono_take' 1 (v := ?_) rfl (by kernel_rfl) (by kernel_rfl) (by kernel_rfl) (fun _ _ _ h => h) (by rfl) ?_ ?_
                  rotate_left
                  · (intro W hSw; have hcW := hSw.cells; try simp only [World.size_drew, World.cell?_drew] at hcW
                     go_simp; first | done | rfl)
                  try simp only [Act.put, List.setIfInBounds_toArray, List.set_cons_zero, List.set_cons_succ]
                  -- 2 Op.load 9 (Operand.tmp 153)
                  refine wpMono_take' 2 (v := ?_) rfl (by kernel_rfl) (by kernel_rfl) (by kernel_rfl) (fun _ _ _ h => h) (by rfl) ?_ ?_
                  rotate_left
                  · (intro W hSw; have hcW := hSw.cells; try simp only [World.size_drew, World.cell?_drew] at hcW
                     go_simp; first | done | rfl)
                  try simp only [Act.put, List.setIfInBounds_toArray, List.set_cons_zero, List.set_cons_succ]
                  -- 4 Op.move (Operand.tmp 9)
                  refine wpMono_take' 4 (v := ?_) rfl (by kernel_rfl) (by kernel_rfl) (by kernel_rfl) (fun _ _ _ h => h) (by rfl) ?_ ?_
                  rotate_left
                  · (intro W hSw; have hcW := hSw.cells; try simp only [World.size_drew, World.cell?_drew] at hcW
                     go_simp; first | done | rfl)
                  try simp only [Act.put, List.setIfInBounds_toArray, List.set_cons_zero, List.set_cons_succ]
                  -- 5 Op.fieldAddr 32 (Operand.tmp 11) 1
                  refine wpMono_take' 5 (v := ?_) rfl (by kernel_rfl) (by kernel_rfl) (by kernel_rfl) (fun _ _ _ h => h) (by rfl) ?_ ?_
                  rotate_left
                  · (intro W hSw; have hcW := hSw.cells; try simp only [World.size_drew, World.cell?_drew] at hcW
                     go_simp; first | done | rfl)
                  try simp only [Act.put, List.setIfInBounds_toArray, List.set_cons_zero, List.set_cons_succ]
                  -- 6 Op.load 9 (Operand.tmp 157)
                  refine wpMono_take' 6 (v := ?_) rfl (by kernel_rfl) (by kernel_rfl) (by kernel_rfl) (fun _ _ _ h => h) (by rfl) ?_ ?_
                  rotate_left
                  · (intro W hSw; have hcW := hSw.cells; try simp only [World.size_drew, World.cell?_drew] at hcW
                     go_simp; first | done | rfl)
                  try simp only [Act.put, List.setIfInBounds_toArray, List.set_cons_zero, List.set_cons_succ]
                  -- EFFECT 3 Op.call { callee := Callee.value (Operand.func 14), args := #[Operand.tmp 152, Operand.tmp 154], argTypes := #[26, 9] }
                  refine wpMono_one' 3 (by kernel_rfl) rfl (by rfl) (fun K hK => ?_)
                  go_simp
                  refine (Hz0.out _ (HT.out.keeps (X := nobody) .drew (fun h => h) (fun h => h))).mono ?_
                  rintro e wA ⟨rfl, rfl⟩
                  refine hK.out _ _ ?_ ?_
                  · exact .refl _ _
                  clear hK K
                  try simp only [Act.put, List.setIfInBounds_toArray, List.set_cons_zero, List.set_cons_succ]
                  -- EFFECT 7 Op.call { callee := Callee.value (Operand.func 24), args := #[Operand.tmp 156, Operand.tmp 158], argTypes := #[47, 9] }
                  refine wpMono_one' 7 (by kernel_rfl) rfl (by rfl) (fun K hK => ?_)
                  go_simp
                  refine (Hz1.out _ (HR.out.keeps (X := nobody) .drew (fun h => h) (fun _ _ _ h => h))).mono ?_
                  rintro e wA ⟨rfl, rfl⟩
                  refine hK.out _ _ ?_ ?_
                  · exact .refl _ _
                  clear hK K
                  try simp only [Act.put, List.setIfInBounds_toArray, List.set_cons_zero, List.set_cons_succ]
                  -- 8 Op.binOp BinOp.neq 3 (Operand.tmp 155) (Operand.tmp 159) 3
                  refine wpMono_take' 8 (v := ?_) rfl (by kernel_rfl) (by kernel_rfl) (by kernel_rfl) (fun _ _ _ h => h) (by rfl) ?_ ?_
                  rotate_left
                  · (intro W hSw; have hcW := hSw.cells; try simp only [World.size_drew, World.cell?_drew] at hcW
                     go_simp; first | done | rfl)
                  try simp only [Act.put, List.setIfInBounds_toArray, List.set_cons_zero, List.set_cons_succ]
                  -- 9 Op.move (Operand.tmp 160)
                  refine wpMono_take' 9 (v := ?_) rfl (by kernel_rfl) (by kernel_rfl) (by kernel_rfl) (fun _ _ _ h => h) (by rfl) ?_ ?_
                  rotate_left
                  · (intro W hSw; have hcW := hSw.cells; try simp only [World.size_drew, World.cell?_drew] at hcW
                     go_simp; first | done | rfl)
                  try simp only [Act.put, List.setIfInBounds_toArray, List.set_cons_zero, List.set_cons_succ]
                  -- 10 Op.move (Operand.tmp 7)
                  refine wpMono_take' 10 (v := ?_) rfl (by kernel_rfl) (by kernel_rfl) (by kernel_rfl) (fun _ _ _ h => h) (by rfl) ?_ ?_
                  rotate_left
                  · (intro W hSw; have hcW := hSw.cells; try simp only [World.size_drew, World.cell?_drew] at hcW
                     go_simp; first | done | rfl)
                  try simp only [Act.put, List.setIfInBounds_toArray, List.set_cons_zero, List.set_cons_succ]
                  -- 11 Op.fieldAddr 32 (Operand.tmp 11) 1
                  refine wpMono_take' 11 (v := ?_) rfl (by kernel_rfl) (by kernel_rfl) (by kernel_rfl) (fun _ _ _ h => h) (by rfl) ?_ ?_
                  rotate_left
                  · (intro W hSw; have hcW := hSw.cells; try simp only [World.size_drew, World.cell?_drew] at hcW
                     go_simp; first | done | rfl)
                  try simp only [Act.put, List.setIfInBounds_toArray, List.set_cons_zero, List.set_cons_succ]
                  -- 12 Op.load 9 (Operand.tmp 163)
                  refine wpMono_take' 12 (v := ?_) rfl (by kernel_rfl) (by kernel_rfl) (by kernel_rfl) (fun _ _ _ h => h) (by rfl) ?_ ?_
                  rotate_left
                  · (intro W hSw; have hcW := hSw.cells; try simp only [World.size_drew, World.cell?_drew] at hcW
                     go_simp; first | done | rfl)
                  try simp only [Act.put, List.setIfInBounds_toArray, List.set_cons_zero, List.set_cons_succ]
                  -- 14 Op.move (Operand.tmp 12)
                  refine wpMono_take' 14 (v := ?_) rfl (by kernel_rfl) (by kernel_rfl) (by kernel_rfl) (fun _ _ _ h => h) (by rfl) ?_ ?_
                  rotate_left
                  · (intro W hSw; have hcW := hSw.cells; try simp only [World.size_drew, World.cell?_drew] at hcW
                     go_simp; first | done | rfl)
                  try simp only [Act.put, List.setIfInBounds_toArray, List.set_cons_zero, List.set_cons_succ]
                  -- EFFECT 13 Op.call { callee := Callee.value (Operand.func 14), args := #[Operand.tmp 162, Operand.tmp 164], argTypes := #[26, 9] }
                  refine wpMono_one' 13 (by kernel_rfl) rfl (by rfl) (fun K hK => ?_)
                  go_simp
                  refine (Hz0.out _ (HT.out.keeps (X := nobody) .drew (fun h => h) (fun h => h))).mono ?_
                  rintro e wA ⟨rfl, rfl⟩
                  refine hK.out _ _ ?_ ?_
                  · exact .refl _ _
                  clear hK K
                  try simp only [Act.put, List.setIfInBounds_toArray, List.set_cons_zero, List.set_cons_succ]
                  -- 15 Op.binOp BinOp.lss 3 (Operand.tmp 165) (Operand.tmp 166) 3
                  refine wpMono_take' 15 (v := ?_) rfl (by kernel_rfl) (by kernel_rfl) (by kernel_rfl) (fun _ _ _ h => h) (by rfl) ?_ ?_
                  rotate_left
                  · (intro W hSw; have hcW := hSw.cells; try simp only [World.size_drew, World.cell?_drew] at hcW
                     go_simp; first | done | rfl)
                  try simp only [Act.put, List.setIfInBounds_toArray, List.set_cons_zero, List.set_cons_succ]
                  -- 16 Op.pick (Operand.tmp 161) (Operand.const (Value.bool true)) (Operand.tmp 167)
                  refine wpMono_take' 16 (v := ?_) rfl (by kernel_rfl) (by kernel_rfl) (by kernel_rfl) (fun _ _ _ h => h) (by rfl) ?_ ?_
                  rotate_left
                  · (intro W hSw; have hcW := hSw.cells; try simp only [World.size_drew, World.cell?_drew] at hcW
                     go_simp; first | done | rfl)
                  try simp only [Act.put, List.setIfInBounds_toArray, List.set_cons_zero, List.set_cons_succ]
                  -- 17 Op.move (Operand.tmp 168)
                  refine wpMono_take' 17 (v := ?_) rfl (by kernel_rfl) (by kernel_rfl) (by kernel_rfl) (fun _ _ _ h => h) (by rfl) ?_ ?_
                  rotate_left
                  · (intro W hSw; have hcW := hSw.cells; try simp only [World.size_drew, World.cell?_drew] at hcW
                     go_simp; first | done | rfl)
                  try simp only [Act.put, List.setIfInBounds_toArray, List.set_cons_zero, List.set_cons_succ]
                  -- 18 Op.move (Operand.tmp 7)
                  refine wpMono_take' 18 (v := ?_) rfl (by kernel_rfl) (by kernel_rfl) (by kernel_rfl) (fun _ _ _ h => h) (by rfl) ?_ ?_
                  rotate_left
                  · (intro W hSw; have hcW := hSw.cells; try simp only [World.size_drew, World.cell?_drew] at hcW
                     go_simp; first | done | rfl)
                  try simp only [Act.put, List.setIfInBounds_toArray, List.set_cons_zero, List.set_cons_succ]
                  -- 20 Op.move (Operand.tmp 9)
                  refine wpMono_take' 20 (v := ?_) rfl (by kernel_rfl) (by kernel_rfl) (by kernel_rfl) (fun _ _ _ h => h) (by rfl) ?_ ?_
                  rotate_left
                  · (intro W hSw; have hcW := hSw.cells; try simp only [World.size_drew, World.cell?_drew] at hcW
                     go_simp; first | done | rfl)
                  try simp only [Act.put, List.setIfInBounds_toArray, List.set_cons_zero, List.set_cons_succ]
                  -- 21 Op.nilCheck (Operand.tmp 172)
                  refine wpMono_take' 21 (v := ?_) rfl (by kernel_rfl) (by kernel_rfl) (by kernel_rfl) (fun _ _ _ h => h) (by rfl) ?_ ?_
                  rotate_left
                  · (intro W hSw; have hcW := hSw.cells; try simp only [World.size_drew, World.cell?_drew] at hcW
                     go_simp; first | done | rfl)
                  try simp only [Act.put, List.setIfInBounds_toArray, List.set_cons_zero, List.set_cons_succ]
                  -- 22 Op.fieldAddr 49 (Operand.tmp 173) 0
                  refine wpMono_take' 22 (v := ?_) rfl (by kernel_rfl) (by kernel_rfl) (by kernel_rfl) (fun _ _ _ h => h) (by rfl) ?_ ?_
                  rotate_left
                  · (intro W hSw; have hcW := hSw.cells; try simp only [World.size_drew, World.cell?_drew] at hcW
                     go_simp; first | done | rfl)
                  try simp only [Act.put, List.setIfInBounds_toArray, List.set_cons_zero, List.set_cons_succ]
                  -- 23 Op.load 35 (Operand.tmp 174)
                  refine wpMono_take' 23 (v := ?_) rfl (by kernel_rfl) (by kernel_rfl) (by kernel_rfl) (fun _ _ _ h => h) (by rfl) ?_ ?_
                  rotate_left
                  · (intro W hSw; have hcW := hSw.cells; try simp only [World.size_drew, World.cell?_drew] at hcW
                     go_simp; first | done | rfl)
                  try simp only [Act.put, List.setIfInBounds_toArray, List.set_cons_zero, List.set_cons_succ]
                  -- EFFECT 19 Op.call { callee := Callee.value (Operand.func 13), args := #[Operand.tmp 170], argTypes := #[26] }
                  refine wpMono_one' 19 (by kernel_rfl) rfl (by rfl) (fun K hK => ?_)
                  go_simp
                  refine (list_any g b M _ (HT.out.keeps (X := nobody) .drew (fun h => h) (fun h => h)) (by have := HGM.out.2.1; omega) (user_small HGM.out)).mono ?_
                  rintro e wB ⟨lA, lc, rfl, hown, hbB⟩
                  have HE1 := Lib.hid (eps_own hown)
                  have hbB' := below_ofDrew hbB
                  have HR2 := Lib.hid (HR.out.below hbB')
                  have HT2 := Lib.hid (HT.out.below hbB')
                  have HBB := Lib.hid hbB'
                  clear hown hbB'
                  refine hK.out _ _ ?_ ?_
                  · exact .of_below hbB
                  clear hK K
                  try simp only [Act.put, List.setIfInBounds_toArray, List.set_cons_zero, List.set_cons_succ]
                  -- EFFECT 24 Op.call { callee := Callee.value (Operand.func 15), args := #[Operand.tmp 171, Operand.tmp 175], argTypes := #[35, 35] }
                  refine wpMono_one' 24 (by kernel_rfl) rfl (by rfl) (fun K hK => ?_)
                  go_simp
                  refine (same_any _ _ _ _ _ _ _ HE1.out HR2.out.eps).mono ?_
                  rintro e wC ⟨rfl, hbC⟩
                  refine hK.out _ _ ?_ ?_
                  · exact .of_below hbC
                  clear hK K
                  try simp only [Act.put, List.setIfInBounds_toArray, List.set_cons_zero, List.set_cons_succ]
                  -- 25 Op.unOp UnOp.not 4 (Operand.tmp 176)
                  refine wpMono_take' 25 (v := ?_) rfl (by kernel_rfl) (by kernel_rfl) (by kernel_rfl) (fun _ _ _ h => h) (by rfl) ?_ ?_
                  rotate_left
                  · (intro W hSw; have hcW := hSw.cells; try simp only [World.size_drew, World.cell?_drew] at hcW
                     go_simp; first | done | rfl)
                  try simp only [Act.put, List.setIfInBounds_toArray, List.set_cons_zero, List.set_cons_succ]
                  -- 26 Op.pick (Operand.tmp 169) (Operand.const (Value.bool true)) (Operand.tmp 177)
                  refine wpMono_take' 26 (v := ?_) rfl (by kernel_rfl) (by kernel_rfl) (by kernel_rfl) (fun _ _ _ h => h) (by rfl) ?_ ?_
                  rotate_left
                  · (intro W hSw; have hcW := hSw.cells; try simp only [World.size_drew, World.cell?_drew] at hcW
                     go_simp; first | done | rfl)
                  try simp only [Act.put, List.setIfInBounds_toArray, List.set_cons_zero, List.set_cons_succ]
                  refine wpMono_done (by kernel_rfl) ?_ _
                  have HT3 := Lib.hid (HT2.out.below hbC)
                  have HR3 := Lib.hid (HR2.out.below hbC)
                  have HB3 := Lib.hid (below_step Hfin.out.2 (below_step HBB.out hbC))
                  clear hbB hbC
                  go_wp2
                  go_roundw
                  case rel => exact ⟨k + 1, M, A2, c2', by omega, by go_num, Hfin.out.1, HT3.out, HR3.out, HB3.out⟩
                  case measure => simp [intOf]; omega
            · have hd3 : decide (1000 < (ou.size : Int)) = true := by simp; omega
              have Hbw2 := Lib.hid hbw2
              clear hbw2
              clear hT2 hR2 hO hbw
              go_wp2
              go_ret
              exact ⟨rfl, Hbw2.out⟩
          · have Hbw5 := Lib.hid hbw
            clear hbw hT hRT hG
            go_wp2
            go_ret
            exact ⟨rfl, Hbw5.out⟩
end Go.Proofs.Ytojmnkcncjconaa.wEpochPlays
