/- The document's net: ways are cut and joined. -/
import Derived.Test.YtempojdgbgaanaaRefTake
namespace Go.Proofs.Ytempojdgbgaanaa.refcut
open Go.RowKit Go.Proofs.Ytempojdgbgaanaa.base Go.Proofs.Ytempojdgbgaanaa.net Go.Proofs.Ytempojdgbgaanaa.state Go.Proofs.Ytempojdgbgaanaa.at_ Go.Proofs.Ytempojdgbgaanaa.keepo Go.Proofs.Ytempojdgbgaanaa.refnet Go.Proofs.Ytempojdgbgaanaa.refat Go.Proofs.Ytempojdgbgaanaa.refcnt Go.Proofs.Ytempojdgbgaanaa.refsend

def cutW (n : Int) (Ws : List W2) (x : W2) : List W2 := if isW n x.1 x.2 then Ws ++ [x] else Ws
def joinW (Ws : List W2) (x : W2) : List W2 := Ws.filter fun v => !hit x v
theorem join_hit {Ws : List W2} {x v : W2} {k : Nat} (hk : Ws[k]? = some v) (h : hit x v = true) : joinW (Ws.take (k + 1)) x = joinW (Ws.take k) x := by
  unfold joinW
  rw [List.take_add_one, hk, List.filter_append]
  simp [h]
theorem join_miss {Ws : List W2} {x v : W2} {k : Nat} (hk : Ws[k]? = some v) (h : hit x v = false) : joinW (Ws.take (k + 1)) x = joinW (Ws.take k) x ++ [v] := by
  unfold joinW
  rw [List.take_add_one, hk, List.filter_append]
  simp [h]
set_option maxRecDepth 100000 in
set_option maxHeartbeats 1600000 in
theorem cut_ref (B g : Nat) (n a b : Int) (A1 A2 : Option Addr) (c1 c2 : Nat) (L : List M) (Ws : List W2) (w : World) (h : RefT w B g n A1 c1 A2 c2 L Ws) (hl2 : Ws.length ≤ 10000) :
    Calls Try.prog 23 #[.pointer (some ⟨g, 0, none⟩), .int .i64 a, .int .i64 b] w fun e w' => e = .returned (.tuple #[]) ∧ RefR B g n L (cutW n Ws (a, b)) w w' := by
  obtain ⟨i0, hi0, hz0, hz1, hz2⟩ := info_parts w_info
  have H := Lib.hid h
  have hsz := RefT.size h
  clear h
  cases t1 : isW n a b
  · have hd : cutW n Ws (a, b) = Ws := by unfold cutW; rw [t1]; rfl
    have Hd := Lib.hid hd
    clear hd
    go_enter Try.func23, Try.ntmps23
    go_wp2_with fail
    refine (there_any B g n a b A1 A2 c1 c2 L Ws w H.out).mono ?_
    rintro e w2 ⟨rfl, rfl⟩
    rw [t1]
    go_wp2
    exact bodyPost_end (v := .tuple #[]) (by simp [results, Try.results23, go_sem]) rfl ⟨rfl, by rw [Hd.out]; exact RefR.same H.out (Below.refl _ _)⟩
  · have hd : cutW n Ws (a, b) = Ws ++ [(a, b)] := by unfold cutW; rw [t1]; rfl
    have Hd := Lib.hid hd
    clear hd
    go_enter Try.func23, Try.ntmps23
    go_wp2_with fail
    refine (there_any B g n a b A1 A2 c1 c2 L Ws w H.out).mono ?_
    rintro e w2 ⟨rfl, rfl⟩
    rw [t1]
    have q1 : w2.cell? ⟨g, 2, none⟩ = some (.slice A2 Ws.length c2) := H.out.blk.cell 2
    have q2 := H.out.blk.lt
    go_wp2_with (at_builtin; refine wpList_append_new rfl (.tmp 14) (.tmp 18) _ rfl B 69 i0 _ 2 16 Try.underlying46 hi0 hz0 hz1 hz2 rfl (by decide) _ _ _ rfl H.out.own2 1 1 [.int .i64 a, .int .i64 b] rfl rfl (by simp [Value.oneCell']) (by unfold maxLen; omega) (by omega) (RefT.size H.out) ?_; intro v1 w5 hown1 hbw1 hgr1 hwh1; obtain ⟨A', c', rfl, hbk, hRR⟩ := RefT.more2 H.out (m := (a, b)) hown1 hbw1 hgr1; have HRR := Lib.hid hRR; have q1 : w5.cell? ⟨g, 2, none⟩ = some (.slice A2 Ws.length c2) := hbk.cell 2; have q2 := hbk.lt; have qf := hbk.frozen 2; clear hown1 hbw1 hgr1 hwh1 hbk hRR)
    go_wp2
    exact bodyPost_end (v := .tuple #[]) (by simp [results, Try.results23, go_sem]) rfl ⟨rfl, by rw [Hd.out]; have h := HRR.out; simp only [List.length_append, List.length_cons, List.length_nil] at h; exact h⟩
set_option maxRecDepth 100000 in
set_option maxHeartbeats 1600000 in
theorem join_ref (B g : Nat) (n a b : Int) (A1 A2 : Option Addr) (c1 c2 : Nat) (L : List M) (Ws : List W2) (w : World) (h : RefT w B g n A1 c1 A2 c2 L Ws) (hl2 : Ws.length ≤ 10000) :
    Calls Try.prog 24 #[.pointer (some ⟨g, 0, none⟩), .int .i64 a, .int .i64 b] w fun e w' => e = .returned (.tuple #[]) ∧ RefR B g n L (joinW Ws (a, b)) w w' := by
  obtain ⟨i0, hi0, hz0, hz1, hz2⟩ := info_parts w_info
  have H := Lib.hid h
  have hsz := RefT.size h
  clear h
  go_enter Try.func24, Try.ntmps24
  go_wp2
  go_loopw [6, 7, 8] (fun sv iv _ wr => ∃ (k : Nat) (A : Option Addr) (m c : Nat), k ≤ Ws.length ∧ m ≤ k ∧ iv = .int .i64 k ∧ sv = .slice A m c ∧ wr.ownsRow w.heap.size 69 2 (.slice A m c) m ((joinW (Ws.take k) (a, b)).flatMap wc) ∧ Below w.heap.size w wr) (fun _ iv _ _ => Ws.length - (intOf iv).toNat)
  case atStart => exact ⟨0, _, 0, 0, by omega, by omega, rfl, rfl, by have := ownsRow_new0 w 69 2 #[] (n := 0); simpa [joinW] using this, below_new _ _⟩
  case round =>
    obtain ⟨k, A, m, c, hk, hm, rfl, rfl, hown, hb⟩ := hrel
    have hR := H.out.below hb
    have q2 : wr.cell? ⟨g, 2, none⟩ = some (.slice A2 Ws.length c2) := hR.blk.cell 2
    have q3 := hR.blk.lt
    have hlk : decide ((k : Int) < (Ws.length : Int)) = decide (k < Ws.length) := decide_eq_decide.2 (by omega)
    by_cases hlt : k < Ws.length
    · have hrow := hR.row2
      obtain ⟨sb, so, rfl, hsb⟩ := hrow.at_some (by omega)
      obtain ⟨v, hv⟩ : ∃ v, Ws[k]? = some v := ⟨Ws[k], List.getElem?_eq_getElem hlt⟩
      have g0 := hrow.thing wc wc_len hlt hv 0 (by omega)
      have g1 := hrow.thing wc wc_len hlt hv 1 (by omega)
      have hmiss := fun h => join_miss (x := (a, b)) hv h
      have hhit := fun h => join_hit (x := (a, b)) hv h
      obtain ⟨p, q⟩ := v
      simp [wc] at g0 g1
      have hb2 := below_alloc hb (.cells #[.int .i64 p, .int .i64 q] 69)
      have hws := hb2.size
      have Hb2 := Lib.hid hb2
      have Hmiss := Lib.hid hmiss
      have Hhit := Lib.hid hhit
      have Hown0 := Lib.hid hown
      have Hown := Lib.hid (own_below hown (below_new _ (.cells #[.int .i64 p, .int .i64 q] 69)))
      clear hb hb2 hR hrow hmiss hhit hv hown
      cases d1 : (p == a)
      · cases d3 : (p == b)
        · skip
          have Hh := Lib.hid (Hmiss.out (hit_f4 d1 d3))
          go_wp2_with (at_builtin; refine wpList_append_newAt rfl (.tmp 49) (.tmp 51) _ rfl w.heap.size 69 i0 _ 2 16 Try.underlying46 hi0 hz0 hz1 hz2 rfl (by decide) _ _ _ rfl Hown.out 1 1 (wr.heap.size + 1) (by simp) [.int .i64 p, .int .i64 q] rfl rfl (by simp [Value.oneCell']) (by unfold maxLen; omega) (by omega) hws ?_; intro v1 w5 hown1 hbw1 hgr1 hwh1; obtain ⟨A', c', rfl⟩ := ownsRow_slice hown1; have Hown1 := Lib.hid hown1; have Hbw1 := Lib.hid (Hb2.out.trans hbw1); clear hown1 hbw1 hgr1 hwh1)
          go_roundw
          case rel => exact ⟨k + 1, A', m + 1, c', by omega, by omega, by go_num, rfl, by rw [Hh.out, List.flatMap_append]; simpa [wc] using Hown1.out, Hbw1.out⟩
          case measure => simp [intOf]; omega
        · cases d4 : (q == a)
          · skip
            have Hh := Lib.hid (Hmiss.out (hit_f3 d1 d4))
            go_wp2_with (at_builtin; refine wpList_append_newAt rfl (.tmp 49) (.tmp 51) _ rfl w.heap.size 69 i0 _ 2 16 Try.underlying46 hi0 hz0 hz1 hz2 rfl (by decide) _ _ _ rfl Hown.out 1 1 (wr.heap.size + 1) (by simp) [.int .i64 p, .int .i64 q] rfl rfl (by simp [Value.oneCell']) (by unfold maxLen; omega) (by omega) hws ?_; intro v1 w5 hown1 hbw1 hgr1 hwh1; obtain ⟨A', c', rfl⟩ := ownsRow_slice hown1; have Hown1 := Lib.hid hown1; have Hbw1 := Lib.hid (Hb2.out.trans hbw1); clear hown1 hbw1 hgr1 hwh1)
            go_roundw
            case rel => exact ⟨k + 1, A', m + 1, c', by omega, by omega, by go_num, rfl, by rw [Hh.out, List.flatMap_append]; simpa [wc] using Hown1.out, Hbw1.out⟩
            case measure => simp [intOf]; omega
          · skip
            have Hh := Lib.hid (Hhit.out (hit_t2 d3 d4))
            go_wp2
            go_roundw
            case rel => exact ⟨k + 1, A, m, c, by omega, by omega, by go_num, rfl, by rw [Hh.out]; exact own_below Hown0.out (below_new _ _), Hb2.out⟩
            case measure => simp [intOf]; omega
      · cases d2 : (q == b)
        · cases d3 : (p == b)
          · skip
            have Hh := Lib.hid (Hmiss.out (hit_f2 d2 d3))
            go_wp2_with (at_builtin; refine wpList_append_newAt rfl (.tmp 49) (.tmp 51) _ rfl w.heap.size 69 i0 _ 2 16 Try.underlying46 hi0 hz0 hz1 hz2 rfl (by decide) _ _ _ rfl Hown.out 1 1 (wr.heap.size + 1) (by simp) [.int .i64 p, .int .i64 q] rfl rfl (by simp [Value.oneCell']) (by unfold maxLen; omega) (by omega) hws ?_; intro v1 w5 hown1 hbw1 hgr1 hwh1; obtain ⟨A', c', rfl⟩ := ownsRow_slice hown1; have Hown1 := Lib.hid hown1; have Hbw1 := Lib.hid (Hb2.out.trans hbw1); clear hown1 hbw1 hgr1 hwh1)
            go_roundw
            case rel => exact ⟨k + 1, A', m + 1, c', by omega, by omega, by go_num, rfl, by rw [Hh.out, List.flatMap_append]; simpa [wc] using Hown1.out, Hbw1.out⟩
            case measure => simp [intOf]; omega
          · cases d4 : (q == a)
            · skip
              have Hh := Lib.hid (Hmiss.out (hit_f d2 d4))
              go_wp2_with (at_builtin; refine wpList_append_newAt rfl (.tmp 49) (.tmp 51) _ rfl w.heap.size 69 i0 _ 2 16 Try.underlying46 hi0 hz0 hz1 hz2 rfl (by decide) _ _ _ rfl Hown.out 1 1 (wr.heap.size + 1) (by simp) [.int .i64 p, .int .i64 q] rfl rfl (by simp [Value.oneCell']) (by unfold maxLen; omega) (by omega) hws ?_; intro v1 w5 hown1 hbw1 hgr1 hwh1; obtain ⟨A', c', rfl⟩ := ownsRow_slice hown1; have Hown1 := Lib.hid hown1; have Hbw1 := Lib.hid (Hb2.out.trans hbw1); clear hown1 hbw1 hgr1 hwh1)
              go_roundw
              case rel => exact ⟨k + 1, A', m + 1, c', by omega, by omega, by go_num, rfl, by rw [Hh.out, List.flatMap_append]; simpa [wc] using Hown1.out, Hbw1.out⟩
              case measure => simp [intOf]; omega
            · skip
              have Hh := Lib.hid (Hhit.out (hit_t2 d3 d4))
              go_wp2
              go_roundw
              case rel => exact ⟨k + 1, A, m, c, by omega, by omega, by go_num, rfl, by rw [Hh.out]; exact own_below Hown0.out (below_new _ _), Hb2.out⟩
              case measure => simp [intOf]; omega
        · skip
          have Hh := Lib.hid (Hhit.out (hit_t1 d1 d2))
          go_wp2
          go_roundw
          case rel => exact ⟨k + 1, A, m, c, by omega, by omega, by go_num, rfl, by rw [Hh.out]; exact own_below Hown0.out (below_new _ _), Hb2.out⟩
          case measure => simp [intOf]; omega
    · have hf : Ws.take k = Ws := List.take_of_length_le (by omega)
      rw [hf] at hown
      have hm2 : (joinW Ws (a, b)).length = m := by have := hown.1; rw [len_flat wc wc_len] at this; omega
      subst hm2
      have hset := RefT.set2 (Ws' := joinW Ws (a, b)) H.out (KeepO.of_below hb) (hb.mono hsz) hR.blk hR.own1 (own_up hown hsz)
      have Hset := Lib.hid hset
      have qf := hR.blk.frozen 2
      clear hown hb hR hset
      go_wp2
      exact bodyPost_end (v := .tuple #[]) (by simp [results, Try.results24, go_sem]) rfl ⟨rfl, Hset.out⟩
end Go.Proofs.Ytempojdgbgaanaa.refcut
