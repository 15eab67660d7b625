/- The walks of the document's table. -/
import Derived.Test.YtojmnkcncjconaaNew
import Derived.Laws.StructEq
namespace Go.Proofs.Ytojmnkcncjconaa.reft
open Go.RowKit Go.Proofs.Ytojmnkcncjconaa.base Go.Proofs.Ytojmnkcncjconaa.list Go.Proofs.Ytojmnkcncjconaa.err Go.Proofs.Ytojmnkcncjconaa.tab Go.Proofs.Ytojmnkcncjconaa.new

theorem own_low {w : World} {base base' : Nat} {e : TypeId} {size n : Nat} {v : Value} {xs : List Value} (h : w.ownsRow base' e size v n xs) (hb : base ≤ base') : w.ownsRow base e size v n xs :=
  ⟨h.1, h.2.imp id fun ⟨g, cap, cur, e, h1, r⟩ => ⟨g, cap, cur, e, Nat.le_trans hb h1, r⟩⟩
/-- The document's table at block g; its list an own row from base on. -/
def RT (w : World) (g base : Nat) (A : Option Addr) (c : Nat) (L : List Ep) : Prop :=
  Blk w g 49 #[.slice A L.length c] ∧ (Value.slice A L.length c).ownBlock ≠ some g ∧ w.ownsRow base 38 2 (.slice A L.length c) L.length (L.flatMap ep)
theorem RT.keeps {X : Nat → Prop} {w w' : World} {g base c : Nat} {A : Option Addr} {L : List Ep} (h : RT w g base A c L) (hk : Keeps X w w') (hg : ¬ X g) (hx : ∀ i, base ≤ i → i < w.heap.size → ¬ X i) : RT w' g base A c L :=
  ⟨h.1.keeps hk hg, h.2.1, ⟨h.2.2.1, h.2.2.2.imp id fun ⟨g, cap, cur, e, h1, h2, r⟩ => ⟨g, cap, cur, e, h1, (hk.block g (heap_lt h2) (hx g h1 (heap_lt h2))).trans h2, r⟩⟩⟩
theorem RT.below {w w' : World} {g base c : Nat} {A : Option Addr} {L : List Ep} (h : RT w g base A c L) (hk : Below w.heap.size w w') : RT w' g base A c L := h.keeps (X := nobody) (.of_below hk) (fun h => h) (fun _ _ _ h => h)
theorem RT.eps {w : World} {g base c : Nat} {A : Option Addr} {L : List Ep} (h : RT w g base A c L) : Eps w w.heap.size A L.length c L := by
  obtain ⟨A', c', e, h'⟩ := Eps.of_own h.2.2
  injection e with e1 _ e2
  subst e1 e2
  exact h'
theorem right_any (u : ByteArray) (n : Int) (w : World) : Calls Try.prog 30 #[.string u, .int .i64 n] w fun e w' => e = .returned (.bool (right u n)) ∧ w = w' := by
  by_cases hr : right u n = true
  · rw [hr]
    unfold right at hr
    obtain ⟨r1, r2, r3, r4⟩ := of_decide_eq_true hr
    clear hr
    have d1 : decide (1 ≤ (u.size : Int)) = true := by simp; omega
    have d2 : decide ((u.size : Int) ≤ 32) = true := by simp; omega
    have d3 : decide (1 ≤ n) = true := by simpa using r3
    have d4 : decide (n ≤ 1099511627776) = true := by simpa using r4
    go_enter Try.func30, Try.ntmps30
    go_wp2
    go_ret
    exact ⟨ret_bool (by simp), rfl⟩
  · rw [show right u n = false by simpa using hr]
    unfold right at hr
    have hw : u.size < 1 ∨ (1 ≤ u.size ∧ 32 < u.size) ∨ (1 ≤ u.size ∧ u.size ≤ 32 ∧ n < 1) ∨ (1 ≤ u.size ∧ u.size ≤ 32 ∧ 1 ≤ n ∧ 1099511627776 < n) := by
      simp at hr; omega
    clear hr
    rcases hw with h1 | ⟨h1, h2⟩ | ⟨h1, h2, h3⟩ | ⟨h1, h2, h3, h4⟩
    · have d1 : decide (1 ≤ (u.size : Int)) = false := by simp; omega
      go_enter Try.func30, Try.ntmps30
      go_wp2
      go_ret
      exact ⟨ret_bool (by simp), rfl⟩
    · have d1 : decide (1 ≤ (u.size : Int)) = true := by simp; omega
      have d2 : decide ((u.size : Int) ≤ 32) = false := by simp; omega
      go_enter Try.func30, Try.ntmps30
      go_wp2
      go_ret
      exact ⟨ret_bool (by simp), rfl⟩
    · have d1 : decide (1 ≤ (u.size : Int)) = true := by simp; omega
      have d2 : decide ((u.size : Int) ≤ 32) = true := by simp; omega
      have d3 : decide (1 ≤ n) = false := by simp; omega
      go_enter Try.func30, Try.ntmps30
      go_wp2
      go_ret
      exact ⟨ret_bool (by simp), rfl⟩
    · have d1 : decide (1 ≤ (u.size : Int)) = true := by simp; omega
      have d2 : decide ((u.size : Int) ≤ 32) = true := by simp; omega
      have d3 : decide (1 ≤ n) = true := by simpa using h3
      have d4 : decide (n ≤ 1099511627776) = false := by simp; omega
      go_enter Try.func30, Try.ntmps30
      go_wp2
      go_ret
      exact ⟨ret_bool (by simp), rfl⟩
theorem get_drop (L : List Ep) (u : ByteArray) (k : Nat) (x : Ep) (hx : L[k]? = some x) : getL (L.drop k) u = if eqb x.u u then x.n else getL (L.drop (k + 1)) u := by
  obtain ⟨hk, rfl⟩ := List.getElem?_eq_some_iff.1 hx
  rw [List.drop_eq_getElem_cons hk]
  rfl
set_option maxHeartbeats 800000 in
theorem get_any (g base c : Nat) (A : Option Addr) (L : List Ep) (u : ByteArray) (w : World) (h : RT w g base A c L) :
    Calls Try.prog 24 #[.pointer (some ⟨g, 0, none⟩), .string u] w fun e w' => e = .returned (.int .i64 (getL L u)) ∧ w = w' := by
  have h0 : w.cell? ⟨g, 0, none⟩ = some (.slice A L.length c) := h.1.cell 0
  have hE := h.eps
  have hlc := hE.2.1
  have hcm := hE.2.2.1
  unfold maxLen at hcm
  generalize hn : L.length = n at *
  have HE := Lib.hid hE
  have Hn := Lib.hid hn
  clear hE hn
  clear h
  go_enter Try.func24, Try.ntmps24
  go_wp2
  go_loop [5] (fun i => ∃ k : Nat, k ≤ n ∧ i = .int .i64 k ∧ getL L u = getL (L.drop k) u) (fun i => n - (intOf i).toNat)
  case atStart => exact ⟨0, by omega, rfl, rfl⟩
  case round =>
    obtain ⟨k, hk, rfl, hg⟩ := hrel
    by_cases hlt : k < n
    · obtain ⟨b, off, rfl, hb⟩ := HE.out.at_some (by omega)
      obtain ⟨x, hx⟩ := HE.out.get hlt
      obtain ⟨hx0, hx1⟩ := HE.out.cell hlt hx
      rw [get_drop L u k x hx] at hg
      obtain ⟨xu, xn⟩ := x
      dsimp only at hx0 hx1 hg
      clear hx
      cases hq : eqb xu u
      · rw [hq] at hg
        have hg2 : getL L u = getL (L.drop (k + 1)) u := hg
        have hq2 : (xu.toList == u.toList) = false := hq
        have Hg2 := Lib.hid hg2
        clear hg2
        clear hg hq
        go_wp2
        go_round
        case rel => exact ⟨k + 1, by omega, by go_num, Hg2.out⟩
        case measure => simp [intOf]; omega
      · rw [hq] at hg
        have hg2 : getL L u = xn := hg
        have hq2 : (xu.toList == u.toList) = true := hq
        have Hg2 := Lib.hid hg2
        clear hg2
        clear hg hq
        go_wp2
        go_ret
        exact ⟨ret_int Hg2.out.symm, rfl⟩
    · have hg2 : getL L u = 0 := by rw [hg, List.drop_eq_nil_of_le (by rw [Hn.out]; omega)]; rfl
      have Hg2 := Lib.hid hg2
      clear hg2
      clear hg
      go_wp2
      go_ret
      exact ⟨ret_int Hg2.out.symm, rfl⟩
set_option maxHeartbeats 800000 in
theorem can_any (g base c : Nat) (A : Option Addr) (L : List Ep) (u : ByteArray) (n : Int) (w : World) (h : RT w g base A c L) :
    Calls Try.prog 23 #[.pointer (some ⟨g, 0, none⟩), .string u, .int .i64 n] w fun e w' => e = .returned (.int .i64 (canC L u n)) ∧ w = w' := by
  have h0 : w.cell? ⟨g, 0, none⟩ = some (.slice A L.length c) := h.1.cell 0
  have H := Lib.hid h
  clear h
  cases hr : right u n
  · have hc : canC L u n = 1 := if_neg (by rw [hr]; simp)
    have hra := right_any u n w
    rw [hr] at hra
    rw [hc]
    have Hra := Lib.hid hra
    clear hra
    clear hr hc
    go_enter Try.func23, Try.ntmps23
    go_wp2_with fail
    refine (Hra.out).mono ?_
    rintro e w1 ⟨rfl, rfl⟩
    go_wp2
    go_ret
    exact ⟨rfl, rfl⟩
  · have hc : canC L u n = if getL L u = 0 ∧ 64 ≤ L.length then 4 else 0 := if_pos hr
    have hra := right_any u n w
    rw [hr] at hra
    rw [hc]
    have Hra := Lib.hid hra
    clear hra
    clear hr hc
    have hga := get_any g base c A L u w H.out
    generalize getL L u = z at *
    have Hga := Lib.hid hga
    clear hga
    by_cases hz : z = 0
    · subst hz
      by_cases hl : 64 ≤ L.length
      · rw [if_pos ⟨rfl, hl⟩]
        have hl2 : decide (64 ≤ (L.length : Int)) = true := by simp; omega
        go_enter Try.func23, Try.ntmps23
        go_wp2_with fail
        refine (Hra.out).mono ?_
        rintro e w1 ⟨rfl, rfl⟩
        go_wp2_with fail
        refine (Hga.out).mono ?_
        rintro e w1 ⟨rfl, rfl⟩
        go_wp2
        go_ret
        exact ⟨rfl, rfl⟩
      · rw [if_neg (by omega)]
        have hl2 : decide (64 ≤ (L.length : Int)) = false := by simp; omega
        go_enter Try.func23, Try.ntmps23
        go_wp2_with fail
        refine (Hra.out).mono ?_
        rintro e w1 ⟨rfl, rfl⟩
        go_wp2_with fail
        refine (Hga.out).mono ?_
        rintro e w1 ⟨rfl, rfl⟩
        go_wp2
        go_ret
        exact ⟨rfl, rfl⟩
    · rw [if_neg (by omega)]
      have hz' : (z == 0) = false := by simpa using hz
      go_enter Try.func23, Try.ntmps23
      go_wp2_with fail
      refine (Hra.out).mono ?_
      rintro e w1 ⟨rfl, rfl⟩
      go_wp2_with fail
      refine (Hga.out).mono ?_
      rintro e w1 ⟨rfl, rfl⟩
      go_wp2
      go_ret
      exact ⟨rfl, rfl⟩

theorem put_app (L1 L2 : List Ep) (u : ByteArray) (n : Int) (h : ∀ e ∈ L1, bl e.u u = true) : putL (L1 ++ L2) u n = L1 ++ putL L2 u n := by
  induction L1 with
  | nil => rfl
  | cons e L ih =>
    have h1 := h e (by simp)
    simp only [List.cons_append, putL, bl_asym h1, eqb_false (fun he : u = e.u => by rw [he, bl_irr] at h1; cases h1), Bool.false_eq_true, if_false]
    rw [ih (fun f hf => h f (by simp [hf]))]
theorem put_snoc (L : List Ep) (x : Ep) (u : ByteArray) (n : Int) (h : ∃ e ∈ L, bl e.u u = false) : putL (L ++ [x]) u n = putL L u n ++ [x] := by
  induction L with
  | nil => simp at h
  | cons e L ih =>
    simp only [List.cons_append, putL]
    rcases bl_tri u e.u with ⟨hh, h3, h4⟩ | ⟨hh, h3, h4⟩ | ⟨hh, h3, h4⟩
    · subst hh; simp [h3, eqb_self]
    · simp [h3]
    · simp only [h3, eqb_false hh, Bool.false_eq_true, if_false, List.cons_append]
      rw [ih]
      obtain ⟨f, hf, hfb⟩ := h
      rcases List.mem_cons.1 hf with rfl | hf
      · rw [h4] at hfb; cases hfb
      · exact ⟨f, hf, hfb⟩
/-- The state of the document's way to set, after k of the list. -/
def SetAt (L : List Ep) (u : ByteArray) (n : Int) (k : Nat) (done : Bool) (out : List Ep) : Prop :=
  if done then out = putL (L.take k) u n ∧ ∃ e ∈ L.take k, bl e.u u = false else out = L.take k ∧ ∀ e ∈ L.take k, bl e.u u = true
theorem set_below {L : List Ep} {u : ByteArray} {n : Int} {k : Nat} {out : List Ep} {x : Ep} (h : SetAt L u n k false out) (hx : L[k]? = some x) (hb : bl x.u u = true) : SetAt L u n (k + 1) false (out ++ [x]) := by
  obtain ⟨rfl, h2⟩ : out = L.take k ∧ _ := h
  refine ⟨(take_last hx).symm, fun e he => ?_⟩
  rw [take_last hx] at he
  rcases List.mem_append.1 he with he | he
  · exact h2 e he
  · simp at he; subst he; exact hb
theorem set_here {L : List Ep} {u : ByteArray} {n : Int} {k : Nat} {out : List Ep} {x : Ep} (h : SetAt L u n k false out) (hx : L[k]? = some x) (hb : eqb x.u u = true) : SetAt L u n (k + 1) true (out ++ [⟨u, n⟩]) := by
  obtain ⟨rfl, h2⟩ : out = L.take k ∧ _ := h
  have he := eqb_iff.1 hb
  refine ⟨?_, x, by rw [take_last hx]; simp, by rw [he, bl_irr]⟩
  rw [take_last hx, put_app _ _ _ _ h2]
  simp [putL, ← he, bl_irr, eqb_self]
theorem set_above {L : List Ep} {u : ByteArray} {n : Int} {k : Nat} {out : List Ep} {x : Ep} (h : SetAt L u n k false out) (hx : L[k]? = some x) (hb : bl u x.u = true) : SetAt L u n (k + 1) true (out ++ [⟨u, n⟩] ++ [x]) := by
  obtain ⟨rfl, h2⟩ : out = L.take k ∧ _ := h
  refine ⟨?_, x, by rw [take_last hx]; simp, bl_asym hb⟩
  rw [take_last hx, put_app _ _ _ _ h2]
  simp [putL, hb]
theorem set_after {L : List Ep} {u : ByteArray} {n : Int} {k : Nat} {out : List Ep} {x : Ep} (hr : Rising L) (h : SetAt L u n k true out) (hx : L[k]? = some x) : SetAt L u n (k + 1) true (out ++ [x]) ∧ eqb x.u u = false := by
  obtain ⟨rfl, e, he, hb⟩ : out = putL (L.take k) u n ∧ _ := h
  have hr2 := rising_take L (k + 1) hr
  rw [take_last hx, rising_app] at hr2
  refine ⟨⟨by rw [take_last hx, put_snoc _ _ _ _ ⟨e, he, hb⟩], e, by rw [take_last hx]; simp [he], hb⟩, ?_⟩
  have h3 := hr2.2 e he
  refine eqb_false fun hh => ?_
  rw [hh, hb] at h3; cases h3
theorem set_end {L : List Ep} {u : ByteArray} {n : Int} {k : Nat} {out : List Ep} (hk : L.length ≤ k) : (SetAt L u n k false out → putL L u n = out ++ [⟨u, n⟩]) ∧ (SetAt L u n k true out → putL L u n = out) := by
  constructor
  · intro h
    obtain ⟨rfl, h2⟩ : out = L.take k ∧ _ := h
    rw [List.take_of_length_le hk] at h2 ⊢
    exact put_last _ _ _ h2
  · intro h
    obtain ⟨rfl, _⟩ : out = putL (L.take k) u n ∧ _ := h
    rw [List.take_of_length_le hk]
theorem RT.make {w w1 : World} {g base q c : Nat} {A : Option Addr} {out : List Ep} {old : Value} (hb : Blk w1 g 49 #[old]) (hg : g < w.heap.size) (hbw : base ≤ w.heap.size) (ho : w1.ownsRow w.heap.size 38 2 (.slice A q c) q (out.flatMap ep)) :
    RT (w1.setCell ⟨g, 0, none⟩ (.slice A q c)) g base A c out := by
  have hl : out.length = q := by have := ho.1; rw [len_flat ep ep_len] at this; omega
  subst hl
  refine ⟨by simpa using hb.set_ 0 (.slice A out.length c), fun e => by have := (ho.lt g e).1; omega, ?_⟩
  exact own_low (own_keeps ho (Keeps.set1 w1 g 0 _) (fun i hi => by omega)) hbw
def SetPost (g base : Nat) (L : List Ep) (w : World) (e : Ending) (w' : World) : Prop := e = .returned (.tuple #[]) ∧ (∃ A c, RT w' g base A c L) ∧ Keeps (· = g) w w'
set_option maxRecDepth 100000 in
set_option maxHeartbeats 3200000 in
theorem set_any (g base c : Nat) (A : Option Addr) (L : List Ep) (u : ByteArray) (n : Int) (w : World) (h : RT w g base A c L) (hr : Rising L) (hl : L.length ≤ 1000) (hbase : base ≤ w.heap.size) :
    Calls Try.prog 33 #[.pointer (some ⟨g, 0, none⟩), .string u, .int .i64 n] w (SetPost g base (putL L u n) w) := by
  obtain ⟨i0, hi, hz0, hz1, hz2⟩ := info_parts ep_info
  have h0 : w.cell? ⟨g, 0, none⟩ = some (.slice A L.length c) := h.1.cell 0
  have hgl := h.1.lt
  have hE := h.eps
  have hlc := hE.2.1
  have hcm := hE.2.2.1
  unfold maxLen at hcm
  generalize hn : L.length = m at *
  have HE := Lib.hid hE
  have Hn := Lib.hid hn
  have H := Lib.hid h
  clear hE hn h
  have Hr := Lib.hid hr
  clear hr
  go_enter Try.func33, Try.ntmps33
  go_wp2
  go_loopw [6, 7, 8] (fun o d i wr => ∃ (k q : Nat) (done : Bool) (out : List Ep), k ≤ m ∧ i = .int .i64 k ∧ d = .bool done ∧ q ≤ 2 * k ∧ wr.ownsRow w.heap.size 38 2 o q (out.flatMap ep) ∧ SetAt L u n k done out ∧ Below w.heap.size w wr) (fun _ _ i _ => m - (intOf i).toNat)
  case atStart =>
    exact ⟨0, 0, false, [], by omega, rfl, rfl, by omega, ownsRow_new0 _ _ _ _, ⟨by simp, by simp⟩, below_new _ _⟩
  case round =>
    obtain ⟨k, q, done, out, hk, rfl, rfl, hq, hown, hset, hbw⟩ := hrel
    have h1 : wr.cell? ⟨g, 0, none⟩ = _ := (hbw.cell (p := ⟨g, 0, none⟩) hgl).trans h0
    have hsz := hbw.size
    have Hown := Lib.hid hown
    have Hset := Lib.hid hset
    have Hbw := Lib.hid hbw
    clear hown hset hbw
    by_cases hlt : k < m
    · obtain ⟨b, off, rfl, hb⟩ := HE.out.at_some (by omega)
      obtain ⟨x, hx⟩ := HE.out.get hlt
      obtain ⟨hx0, hx1⟩ := (HE.out.below Hbw.out).cell hlt hx
      obtain ⟨xu, xn⟩ := x
      dsimp only at hx0 hx1
      have Hx := Lib.hid hx
      clear hx
      cases done
      · rcases bl_tri xu u with ⟨hq0, hq1, hq2⟩ | ⟨hq0, hq1, hq2⟩ | ⟨hq0, hq1, hq2⟩
        · have hleq := leq_str u xu
          rw [bad_iff, hq1] at hleq
          have hst := set_here Hset.out Hx.out (eqb_iff.2 hq0)
          have hn1 : (xu.toList == u.toList) = true := eqb_iff.2 hq0
          have hn2 : (xu.toList != u.toList) = false := by simp [bne, hn1]
          have Hst := Lib.hid hst
          clear hst
          clear hq0 hq1 hq2
          go_wp2_with (at_builtin; refine wpList_append_new rfl (.tmp 33) (.tmp 37) _ rfl w.heap.size 38 i0 _ 2 24 Try.underlying35 hi hz0 hz1 hz2 rfl (by decide) _ _ _ rfl Hown.out 1 1 [.string u, .int .i64 n] rfl rfl (by simp [Value.oneCell']) (by unfold maxLen; omega) (by omega) Hbw.out.size ?_; intro v1 w1 hown1 hbw1 _ _; obtain ⟨vA1, vc1, rfl⟩ := ownsRow_slice hown1; have h11 := (hbw1.cell (p := ⟨g, 0, none⟩) hgl).trans h1; have x01 := (hbw1.cell (p := ⟨b, off + k * 2, none⟩) hb).trans hx0; have x11 := (hbw1.cell (p := ⟨b, off + k * 2 + 1, none⟩) hb).trans hx1; have Hown1 := Lib.hid hown1; have Hbw1 := Lib.hid (Hbw.out.trans hbw1); clear hown1 hbw1)
          go_roundw
          case rel => exact ⟨k + 1, q + 1, true, out ++ [⟨u, n⟩], by omega, by go_num, rfl, by omega, by have := Hown1.out; simpa [ep] using this, Hst.out, Hbw1.out⟩
          case measure => simp [intOf]; omega
        · have hleq := leq_str u xu
          rw [bad_iff, hq1] at hleq
          have hst := set_below Hset.out Hx.out hq1
          have hn1 : (xu.toList == u.toList) = false := eqb_false hq0
          have hn2 : (xu.toList != u.toList) = true := by simp [bne, hn1]
          have Hst := Lib.hid hst
          clear hst
          clear hq0 hq1 hq2
          go_wp2_with (at_builtin; refine wpList_append_new rfl (.tmp 49) (.tmp 57) _ rfl w.heap.size 38 i0 _ 2 24 Try.underlying35 hi hz0 hz1 hz2 rfl (by decide) _ _ _ rfl Hown.out 1 1 [.string xu, .int .i64 xn] rfl rfl (by simp [Value.oneCell']) (by unfold maxLen; omega) (by omega) Hbw.out.size ?_; intro v1 w1 hown1 hbw1 _ _; obtain ⟨vA1, vc1, rfl⟩ := ownsRow_slice hown1; have h11 := (hbw1.cell (p := ⟨g, 0, none⟩) hgl).trans h1; have x01 := (hbw1.cell (p := ⟨b, off + k * 2, none⟩) hb).trans hx0; have x11 := (hbw1.cell (p := ⟨b, off + k * 2 + 1, none⟩) hb).trans hx1; have Hown1 := Lib.hid hown1; have Hbw1 := Lib.hid (Hbw.out.trans hbw1); clear hown1 hbw1)
          go_roundw
          case rel => exact ⟨k + 1, q + 1, false, out ++ [⟨xu, xn⟩], by omega, by go_num, rfl, by omega, by have := Hown1.out; simpa [ep] using this, Hst.out, Hbw1.out⟩
          case measure => simp [intOf]; omega
        · have hleq := leq_str u xu
          rw [bad_iff, hq1] at hleq
          have hst := set_above Hset.out Hx.out hq2
          have hn1 : (xu.toList == u.toList) = false := eqb_false hq0
          have hn2 : (xu.toList != u.toList) = true := by simp [bne, hn1]
          have Hst := Lib.hid hst
          clear hst
          clear hq0 hq1 hq2
          go_wp2_with (first
            | (at_builtin; refine wpList_append_new rfl (.tmp 33) (.tmp 37) _ rfl w.heap.size 38 i0 _ 2 24 Try.underlying35 hi hz0 hz1 hz2 rfl (by decide) _ _ _ rfl Hown.out 1 1 [.string u, .int .i64 n] rfl rfl (by simp [Value.oneCell']) (by unfold maxLen; omega) (by omega) Hbw.out.size ?_; intro v1 w1 hown1 hbw1 _ _; obtain ⟨vA1, vc1, rfl⟩ := ownsRow_slice hown1; have h11 := (hbw1.cell (p := ⟨g, 0, none⟩) hgl).trans h1; have x01 := (hbw1.cell (p := ⟨b, off + k * 2, none⟩) hb).trans hx0; have x11 := (hbw1.cell (p := ⟨b, off + k * 2 + 1, none⟩) hb).trans hx1; have Hown1 := Lib.hid hown1; have Hbw1 := Lib.hid (Hbw.out.trans hbw1); clear hown1 hbw1)
            | (at_builtin; refine wpList_append_new rfl (.tmp 49) (.tmp 57) _ rfl w.heap.size 38 i0 _ 2 24 Try.underlying35 hi hz0 hz1 hz2 rfl (by decide) _ _ _ rfl Hown1.out 1 1 [.string xu, .int .i64 xn] rfl rfl (by simp [Value.oneCell']) (by unfold maxLen; omega) (by omega) Hbw1.out.size ?_; intro v2 w2 hown2 hbw2 _ _; obtain ⟨vA2, vc2, rfl⟩ := ownsRow_slice hown2; have h12 := (hbw2.cell (p := ⟨g, 0, none⟩) hgl).trans h11; have x02 := (hbw2.cell (p := ⟨b, off + k * 2, none⟩) hb).trans x01; have x12 := (hbw2.cell (p := ⟨b, off + k * 2 + 1, none⟩) hb).trans x11; have Hown2 := Lib.hid hown2; have Hbw2 := Lib.hid (Hbw1.out.trans hbw2); clear hown2 hbw2)
            | fail)
          go_roundw
          case rel => exact ⟨k + 1, q + 1 + 1, true, out ++ [⟨u, n⟩] ++ [⟨xu, xn⟩], by omega, by go_num, rfl, by omega, by have := Hown2.out; simpa [ep] using this, Hst.out, Hbw2.out⟩
          case measure => simp [intOf]; omega
      · obtain ⟨hst, hq0⟩ := set_after Hr.out Hset.out Hx.out
        have hn1 : (xu.toList == u.toList) = false := hq0
        have hn2 : (xu.toList != u.toList) = true := by simp [bne, hn1]
        have Hst := Lib.hid hst
        clear hst
        clear hq0
        go_wp2_with (at_builtin; refine wpList_append_new rfl (.tmp 49) (.tmp 57) _ rfl w.heap.size 38 i0 _ 2 24 Try.underlying35 hi hz0 hz1 hz2 rfl (by decide) _ _ _ rfl Hown.out 1 1 [.string xu, .int .i64 xn] rfl rfl (by simp [Value.oneCell']) (by unfold maxLen; omega) (by omega) Hbw.out.size ?_; intro v1 w1 hown1 hbw1 _ _; obtain ⟨vA1, vc1, rfl⟩ := ownsRow_slice hown1; have h11 := (hbw1.cell (p := ⟨g, 0, none⟩) hgl).trans h1; have x01 := (hbw1.cell (p := ⟨b, off + k * 2, none⟩) hb).trans hx0; have x11 := (hbw1.cell (p := ⟨b, off + k * 2 + 1, none⟩) hb).trans hx1; have Hown1 := Lib.hid hown1; have Hbw1 := Lib.hid (Hbw.out.trans hbw1); clear hown1 hbw1)
        go_roundw
        case rel => exact ⟨k + 1, q + 1, true, out ++ [⟨xu, xn⟩], by omega, by go_num, rfl, by omega, by have := Hown1.out; simpa [ep] using this, Hst.out, Hbw1.out⟩
        case measure => simp [intOf]; omega
    · have hend := set_end (u := u) (n := n) (out := out) (show L.length ≤ k by rw [Hn.out]; omega)
      have hf0 : wr.frozen? ⟨g, 0, none⟩ = false := (H.out.1.below Hbw.out hgl).frozen 0
      have hgl2 := Nat.lt_of_lt_of_le hgl Hbw.out.size
      cases done
      · have hfin := hend.1 Hset.out
        have Hfin := Lib.hid hfin
        clear hfin
        clear hend
        go_wp2_with (at_builtin; refine wpList_append_new rfl (.tmp 61) (.tmp 65) _ rfl w.heap.size 38 i0 _ 2 24 Try.underlying35 hi hz0 hz1 hz2 rfl (by decide) _ _ _ rfl Hown.out 1 1 [.string u, .int .i64 n] rfl rfl (by simp [Value.oneCell']) (by unfold maxLen; omega) (by omega) Hbw.out.size ?_; intro v1 w1 hown1 hbw1 _ _; obtain ⟨vA1, vc1, rfl⟩ := ownsRow_slice hown1; have h11 := (hbw1.cell (p := ⟨g, 0, none⟩) hgl).trans h1; have hf1 := (hbw1.frozen (p := ⟨g, 0, none⟩) hgl).trans hf0; have Hown1 := Lib.hid hown1; have Hbw1 := Lib.hid (Hbw.out.trans hbw1); clear hown1 hbw1)
        have hmk := RT.make (H.out.1.below Hbw1.out hgl) hgl hbase (out := out ++ [⟨u, n⟩]) (by have := Hown1.out; simpa [ep] using this)
        rw [← Hfin.out] at hmk
        have HH := Lib.hid (⟨rfl, ⟨_, _, hmk⟩, (Keeps.of_below Hbw1.out).trans (Keeps.set1 _ _ _ _)⟩ : SetPost g base (putL L u n) w (.returned (.tuple #[])) (w1.setCell ⟨g, 0, none⟩ (.slice vA1 (q + 1) vc1)))
        clear hmk
        go_wp2
        go_end0
        exact ⟨rfl, HH.out.2⟩
      · have hfin := hend.2 Hset.out
        have Hfin := Lib.hid hfin
        clear hfin
        clear hend
        obtain ⟨oA, oc, rfl⟩ := ownsRow_slice Hown.out
        have hmk := RT.make (H.out.1.below Hbw.out hgl) hgl hbase Hown.out
        rw [← Hfin.out] at hmk
        have HH := Lib.hid (⟨rfl, ⟨_, _, hmk⟩, (Keeps.of_below Hbw.out).trans (Keeps.set1 _ _ _ _)⟩ : SetPost g base (putL L u n) w (.returned (.tuple #[])) (wr.setCell ⟨g, 0, none⟩ (.slice oA q oc)))
        clear hmk
        go_wp2
        go_end0
        exact ⟨rfl, HH.out.2⟩

def RaiseR (g base : Nat) (L : List Ep) (u : ByteArray) (z q : Int) (w : World) (e : Ending) (w' : World) : Prop :=
  (q ≠ 0 ∧ e = .returned (.tuple #[.int .i64 0, .int .i64 q]) ∧ w = w') ∨
  (q = 0 ∧ e = .returned (.tuple #[.int .i64 (z + 1), .int .i64 0]) ∧ (∃ A c, RT w' g base A c (putL L u (z + 1))) ∧ Keeps (· = g) w w')
set_option maxHeartbeats 800000 in
theorem raise_any (g base c : Nat) (A : Option Addr) (L : List Ep) (u : ByteArray) (w : World) (h : RT w g base A c L) (hG : GoodL L) (hbase : base ≤ w.heap.size) :
    Calls Try.prog 19 #[.pointer (some ⟨g, 0, none⟩), .string u] w (RaiseR g base L u (getL L u) (canC L u (getL L u + 1)) w) := by
  obtain ⟨b1, b2⟩ := get_bd hG.2.2 u
  have hga := reft.get_any g base c A L u w h
  have hca := fun n => reft.can_any g base c A L u n w h
  have hsa := fun n => set_any g base c A L u n w h hG.1 (by have := hG.2.1; omega) hbase
  generalize getL L u = z at *
  have hca := hca (z + 1)
  have hsa := hsa (z + 1)
  generalize canC L u (z + 1) = q at *
  have Hga := Lib.hid hga
  have Hca := Lib.hid hca
  have Hsa := Lib.hid hsa
  clear hga hca hsa
  by_cases hq : q = 0
  · subst hq
    go_enter Try.func19, Try.ntmps19
    go_wp2_with fail
    refine (Hga.out).mono ?_
    rintro e w1 ⟨rfl, rfl⟩
    go_wp2_with fail
    refine (Hca.out).mono ?_
    rintro e w1 ⟨rfl, rfl⟩
    go_wp2_with fail
    refine (Hsa.out).mono ?_
    rintro e w1 ⟨rfl, hrt, hk⟩
    have HH := Lib.hid (And.intro hrt hk)
    clear hrt hk
    go_wp2
    go_ret2
    exact .inr ⟨rfl, rfl, HH.out.1, HH.out.2⟩
  · have hq' : (q != 0) = true := by simpa using hq
    have Hq := Lib.hid hq
    go_enter Try.func19, Try.ntmps19
    go_wp2_with fail
    refine (Hga.out).mono ?_
    rintro e w1 ⟨rfl, rfl⟩
    go_wp2_with fail
    refine (Hca.out).mono ?_
    rintro e w1 ⟨rfl, rfl⟩
    go_wp2
    go_ret2
    exact .inl ⟨Hq.out, rfl, rfl⟩
def LearnR (g base : Nat) (L : List Ep) (u : ByteArray) (n z q : Int) (w : World) (e : Ending) (w' : World) : Prop :=
  (q ≠ 0 ∧ e = .returned (.tuple #[.bool false, .int .i64 q]) ∧ w = w') ∨
  (q = 0 ∧ n ≤ z ∧ e = .returned (.tuple #[.bool false, .int .i64 0]) ∧ w = w') ∨
  (q = 0 ∧ ¬ n ≤ z ∧ e = .returned (.tuple #[.bool true, .int .i64 0]) ∧ (∃ A c, RT w' g base A c (putL L u n)) ∧ Keeps (· = g) w w')
set_option maxHeartbeats 800000 in
theorem learn_any (g base c : Nat) (A : Option Addr) (L : List Ep) (u : ByteArray) (n : Int) (w : World) (h : RT w g base A c L) (hG : GoodL L) (hbase : base ≤ w.heap.size) :
    Calls Try.prog 21 #[.pointer (some ⟨g, 0, none⟩), .string u, .int .i64 n] w (LearnR g base L u n (getL L u) (canC L u n) w) := by
  have hga := reft.get_any g base c A L u w h
  have hca := reft.can_any g base c A L u n w h
  have hsa := set_any g base c A L u n w h hG.1 (by have := hG.2.1; omega) hbase
  generalize getL L u = z at *
  generalize canC L u n = q at *
  have Hga := Lib.hid hga
  have Hca := Lib.hid hca
  have Hsa := Lib.hid hsa
  clear hga hca hsa
  by_cases hq : q = 0
  · subst hq
    by_cases hn : n ≤ z
    · have hn2 : decide (n ≤ z) = true := by simpa using hn
      have Hn := Lib.hid hn
      go_enter Try.func21, Try.ntmps21
      go_wp2_with fail
      refine (Hca.out).mono ?_
      rintro e w1 ⟨rfl, rfl⟩
      go_wp2_with fail
      refine (Hga.out).mono ?_
      rintro e w1 ⟨rfl, rfl⟩
      go_wp2
      go_ret2
      exact .inr (.inl ⟨rfl, Hn.out, rfl, rfl⟩)
    · have Hn := Lib.hid hn
      go_enter Try.func21, Try.ntmps21
      go_wp2_with fail
      refine (Hca.out).mono ?_
      rintro e w1 ⟨rfl, rfl⟩
      go_wp2_with fail
      refine (Hga.out).mono ?_
      rintro e w1 ⟨rfl, rfl⟩
      go_wp2_with fail
      refine (Hsa.out).mono ?_
      rintro e w1 ⟨rfl, hrt, hk⟩
      have HH := Lib.hid (And.intro hrt hk)
      clear hrt hk
      go_wp2
      go_ret2
      exact .inr (.inr ⟨rfl, by have := Hn.out; omega, rfl, HH.out.1, HH.out.2⟩)
  · have hq' : (q != 0) = true := by simpa using hq
    have Hq := Lib.hid hq
    go_enter Try.func21, Try.ntmps21
    go_wp2_with fail
    refine (Hca.out).mono ?_
    rintro e w1 ⟨rfl, rfl⟩
    go_wp2
    go_ret2
    exact .inl ⟨Hq.out, rfl, rfl⟩
theorem neq_ep (u : ByteArray) (n : Int) (w : World) : (binOp .neq 38 (.agg #[.string u, .int .i64 n]) (.agg #[.string u, .int .i64 n])).run Try.prog w = .ok (.bool false) w := by
  have hp : Try.prog.stoodInHeld 38 = false := by kernel_rfl
  simp [go_sem, Try.underlying38, Try.underlying3, Try.underlying9, hp]
set_option maxHeartbeats 800000 in
theorem same_any (A A' : Option Addr) (n c c' : Nat) (L : List Ep) (w : World) (h : Eps w w.heap.size A n c L) (h' : Eps w w.heap.size A' n c' L) :
    Calls Try.prog 15 #[.slice A n c, .slice A' n c'] w fun e w' => e = .returned (.bool true) ∧ Below w.heap.size w w' := by
  have hlc := h.2.1
  have hcm := h.2.2.1
  have hlc' := h'.2.1
  have hcm' := h'.2.2.1
  unfold maxLen at hcm hcm'
  have H := Lib.hid h
  have H' := Lib.hid h'
  clear h h'
  go_enter Try.func15, Try.ntmps15
  go_wp2
  go_loopw [5] (fun i wr => ∃ k : Nat, k ≤ n ∧ i = .int .i64 k ∧ Below w.heap.size w wr) (fun i _ => n - (intOf i).toNat)
  case atStart => exact ⟨0, by omega, rfl, .refl _ _⟩
  case round =>
    obtain ⟨k, hk, rfl, hbw⟩ := hrel
    by_cases hlt : k < n
    · obtain ⟨b, off, rfl, hb⟩ := H.out.at_some (by omega)
      obtain ⟨b', off', rfl, hb'⟩ := H'.out.at_some (by omega)
      obtain ⟨x, hx⟩ := H.out.get hlt
      obtain ⟨hx0, hx1⟩ := (H.out.below hbw).cell hlt hx
      obtain ⟨hy0, hy1⟩ := (H'.out.below hbw).cell hlt hx
      obtain ⟨xu, xn⟩ := x
      dsimp only at hx0 hx1 hy0 hy1
      have hbl := Nat.lt_of_lt_of_le hb hbw.size
      have hbl' := Nat.lt_of_lt_of_le hb' hbw.size
      have hnq := neq_ep xu xn
      have Hbw := Lib.hid hbw
      clear hbw
      clear hx
      go_wp2_with fail
      refine wp_region_mono nobody (by kernel_rfl) ?_
      -- 0 Op.move (Operand.tmp 0)
      refine wpMono_take' 0 (v := ?_) rfl (by kernel_rfl) (by kernel_rfl) (by kernel_rfl) (fun _ _ _ h => h) (by rfl) ?_ ?_
      rotate_left
      · (intro W hSw; have hcW := hSw.cells; try simp only [World.size_drew, World.cell?_drew] at hcW
         go_simp; first | done | rfl)
      try simp only [Act.put, List.setIfInBounds_toArray, List.set_cons_zero, List.set_cons_succ]
      -- 1 Op.move (Operand.tmp 5)
      refine wpMono_take' 1 (v := ?_) rfl (by kernel_rfl) (by kernel_rfl) (by kernel_rfl) (fun _ _ _ h => h) (by rfl) ?_ ?_
      rotate_left
      · (intro W hSw; have hcW := hSw.cells; try simp only [World.size_drew, World.cell?_drew] at hcW
         go_simp; first | done | rfl)
      try simp only [Act.put, List.setIfInBounds_toArray, List.set_cons_zero, List.set_cons_succ]
      -- 2 Op.indexAddr 35 (Operand.tmp 17) (Operand.tmp 18)
      refine wpMono_take' 2 (v := ?_) rfl (by kernel_rfl) (by kernel_rfl) (by kernel_rfl) (fun _ _ _ h => h) (by rfl) ?_ ?_
      rotate_left
      · (intro W hSw; have hcW := hSw.cells; try simp only [World.size_drew, World.cell?_drew] at hcW
         go_simp; first | done | rfl)
      try simp only [Act.put, List.setIfInBounds_toArray, List.set_cons_zero, List.set_cons_succ]
      -- 3 Op.load 38 (Operand.tmp 19)
      refine wpMono_take' 3 (v := ?_) rfl (by kernel_rfl) (by kernel_rfl) (by kernel_rfl) (fun _ _ _ h => h) (by rfl) ?_ ?_
      rotate_left
      · (intro W hSw; have hcW := hSw.cells; try simp only [World.size_drew, World.cell?_drew] at hcW
         go_simp; first | done | rfl)
      try simp only [Act.put, List.setIfInBounds_toArray, List.set_cons_zero, List.set_cons_succ]
      -- 4 Op.move (Operand.tmp 1)
      refine wpMono_take' 4 (v := ?_) rfl (by kernel_rfl) (by kernel_rfl) (by kernel_rfl) (fun _ _ _ h => h) (by rfl) ?_ ?_
      rotate_left
      · (intro W hSw; have hcW := hSw.cells; try simp only [World.size_drew, World.cell?_drew] at hcW
         go_simp; first | done | rfl)
      try simp only [Act.put, List.setIfInBounds_toArray, List.set_cons_zero, List.set_cons_succ]
      -- 5 Op.move (Operand.tmp 5)
      refine wpMono_take' 5 (v := ?_) rfl (by kernel_rfl) (by kernel_rfl) (by kernel_rfl) (fun _ _ _ h => h) (by rfl) ?_ ?_
      rotate_left
      · (intro W hSw; have hcW := hSw.cells; try simp only [World.size_drew, World.cell?_drew] at hcW
         go_simp; first | done | rfl)
      try simp only [Act.put, List.setIfInBounds_toArray, List.set_cons_zero, List.set_cons_succ]
      -- 6 Op.indexAddr 35 (Operand.tmp 21) (Operand.tmp 22)
      refine wpMono_take' 6 (v := ?_) rfl (by kernel_rfl) (by kernel_rfl) (by kernel_rfl) (fun _ _ _ h => h) (by rfl) ?_ ?_
      rotate_left
      · (intro W hSw; have hcW := hSw.cells; try simp only [World.size_drew, World.cell?_drew] at hcW
         go_simp; first | done | rfl)
      try simp only [Act.put, List.setIfInBounds_toArray, List.set_cons_zero, List.set_cons_succ]
      -- 7 Op.load 38 (Operand.tmp 23)
      refine wpMono_take' 7 (v := ?_) rfl (by kernel_rfl) (by kernel_rfl) (by kernel_rfl) (fun _ _ _ h => h) (by rfl) ?_ ?_
      rotate_left
      · (intro W hSw; have hcW := hSw.cells; try simp only [World.size_drew, World.cell?_drew] at hcW
         go_simp; first | done | rfl)
      try simp only [Act.put, List.setIfInBounds_toArray, List.set_cons_zero, List.set_cons_succ]
      -- 8 Op.binOp BinOp.neq 38 (Operand.tmp 20) (Operand.tmp 24) 38
      refine wpMono_take' 8 (v := ?_) rfl (by kernel_rfl) (by kernel_rfl) (by kernel_rfl) (fun _ _ _ h => h) (by rfl) ?_ ?_
      rotate_left
      · (intro W hSw; have hcW := hSw.cells; try simp only [World.size_drew, World.cell?_drew] at hcW
         go_simp; first | done | rfl)
      try simp only [Act.put, List.setIfInBounds_toArray, List.set_cons_zero, List.set_cons_succ]
      refine wpMono_done (by kernel_rfl) ?_ _
      go_wp2
      go_roundw
      case rel => exact ⟨k + 1, by omega, by go_num, by exact Hbw.out.drew⟩
      case measure => simp [intOf]; omega
    · have Hbw := Lib.hid hbw
      clear hbw
      go_wp2
      go_ret
      exact ⟨rfl, Hbw.out⟩

set_option maxRecDepth 100000 in
theorem told_any (v : Value) (c : Int) (w : World) (h : EO w v c) : Calls Try.prog 20 #[v, .int .i64 c] w fun e w' => e = .returned (.bool true) ∧ w = w' := by
  by_cases hc : c = 0
  · rcases h with ⟨_, rfl⟩ | ⟨h, _⟩
    · subst hc
      go_enter Try.func20, Try.ntmps20
      go_wp2
      go_ret
      exact ⟨rfl, rfl⟩
    · exact absurd hc h
  · have hi := is_eo v c c w h
    rw [decide_eq_true hc, Bool.true_and, beq_self_eq_true] at hi
    obtain ⟨g, rfl⟩ := h.form hc
    have h1 : (c == 0) = false := by simpa using hc
    have h2 : (c != 0) = true := by simpa using hc
    have Hi := Lib.hid hi
    clear hi
    clear h
    go_enter Try.func20, Try.ntmps20
    go_wp2_with fail
    refine (Hi.out).mono ?_
    rintro e w1 ⟨rfl, rfl⟩
    go_wp2
    go_ret
    exact ⟨rfl, rfl⟩
theorem good_fails {L : List Ep} {k : Nat} {x : Ep} (hx : L[k]? = some x) (hG : GoodL L) : right x.u x.n = true ∧ ∀ p, 0 < k → L[k - 1]? = some p → bl p.u x.u = true := ⟨hG.2.2 x (List.mem_of_getElem? hx), (good_next hx hG).2⟩
theorem good_grows {L : List Ep} {k : Nat} {x : Ep} (hl : L.length ≤ 64) (hx : L[k]? = some x) (hG : GoodL (L.take k)) (hab : ∀ p, 0 < k → L[k - 1]? = some p → bl p.u x.u = true) (hr : right x.u x.n = true) : GoodL (L.take (k + 1)) := by
  have hk := (List.getElem?_eq_some_iff.1 hx).1
  refine (good_step hx hG hab ?_).1
  unfold canC
  rw [if_pos hr, if_neg]
  rintro ⟨_, h⟩
  simp at h
  omega
def RightR (L : List Ep) (w : World) (e : Ending) (w' : World) : Prop := (GoodL L ∧ e = .returned (.bool true) ∧ Below w.heap.size w w') ∨ (¬ GoodL L ∧ e = .returned (.bool false) ∧ Below w.heap.size w w')
set_option maxRecDepth 100000 in
set_option maxHeartbeats 1600000 in
theorem Right_any (A : Option Addr) (len cap : Nat) (L : List Ep) (w : World) (h : Eps w w.heap.size A len cap L) :
    Calls Try.prog 17 #[.slice A len cap] w (RightR L w) := by
  have hlc := h.2.1
  have hcm := h.2.2.1
  unfold maxLen at hcm
  have H := Lib.hid h
  clear h
  by_cases hl : len ≤ 64
  · go_enter Try.func17, Try.ntmps17
    go_wp2
    go_loopw [3] (fun i wr => ∃ k : Nat, k ≤ len ∧ i = .int .i64 k ∧ GoodL (L.take k) ∧ Below w.heap.size w wr) (fun i _ => len - (intOf i).toNat)
    case atStart => exact ⟨0, by omega, rfl, ⟨trivial, by simp, by simp⟩, .refl _ _⟩
    case round =>
      obtain ⟨k, hk, rfl, hG, hbw⟩ := hrel
      by_cases hlt : k < len
      · obtain ⟨b, off, rfl, hb⟩ := H.out.at_some (by omega)
        obtain ⟨x, hx⟩ := H.out.get hlt
        obtain ⟨hx0, hx1⟩ := (H.out.below hbw).cell hlt hx
        have hbl := Nat.lt_of_lt_of_le hb hbw.size
        have hgrow := fun hab hr => good_grows (by rw [H.out.1]; exact hl) hx hG hab hr
        have hfail := fun hL => good_fails hx hL
        have hprev : ∃ p : Ep, 0 < k → L[k - 1]? = some p ∧ wr.cell? ⟨b, off + (k - 1) * 2, none⟩ = some (.string p.u) := by
          by_cases h0 : 0 < k
          · obtain ⟨p, hp⟩ := H.out.get (k := k - 1) (by omega)
            exact ⟨p, fun _ => ⟨hp, ((H.out.below hbw).cell (by omega) hp).1⟩⟩
          · exact ⟨x, fun h => absurd h h0⟩
        obtain ⟨p, hp⟩ := hprev
        obtain ⟨xu, xn⟩ := x
        obtain ⟨pu, pn⟩ := p
        dsimp only at hx0 hx1 hgrow hfail
        have Hgrow := Lib.hid hgrow
        have Hfail := Lib.hid hfail
        have Hp := Lib.hid hp
        have HG := Lib.hid hG
        have Hbw := Lib.hid hbw
        clear hG hbw
        clear hgrow hfail hp hx
        have hmax : 0 < k ∨ k = 0 := by omega
        have hra := fun w => right_any xu xn w
        cases hr : right xu xn
        · have hng : ¬ GoodL L := fun hL => by have := (Hfail.out hL).1; rw [hr] at this; cases this
          rw [hr] at hra
          have hh : RightR L w (.returned (.bool false)) wr.drew := .inr ⟨hng, rfl, Hbw.out.drew⟩
          have HH := Lib.hid hh
          clear hh
          have Hra := Lib.hid hra
          clear hra
          clear hng hr
          go_wp2_with fail
          refine wp_region_mono nobody (by kernel_rfl) ?_
          -- 0 Op.move (Operand.tmp 0)
          refine wpMono_take' 0 (v := ?_) rfl (by kernel_rfl) (by kernel_rfl) (by kernel_rfl) (fun _ _ _ h => h) (by rfl) ?_ ?_
          rotate_left
          · (intro W hSw; have hcW := hSw.cells; try simp only [World.size_drew, World.cell?_drew] at hcW
             go_simp; first | done | rfl)
          try simp only [Act.put, List.setIfInBounds_toArray, List.set_cons_zero, List.set_cons_succ]
          -- 1 Op.move (Operand.tmp 3)
          refine wpMono_take' 1 (v := ?_) rfl (by kernel_rfl) (by kernel_rfl) (by kernel_rfl) (fun _ _ _ h => h) (by rfl) ?_ ?_
          rotate_left
          · (intro W hSw; have hcW := hSw.cells; try simp only [World.size_drew, World.cell?_drew] at hcW
             go_simp; first | done | rfl)
          try simp only [Act.put, List.setIfInBounds_toArray, List.set_cons_zero, List.set_cons_succ]
          -- 2 Op.indexAddr 35 (Operand.tmp 13) (Operand.tmp 14)
          refine wpMono_take' 2 (v := ?_) rfl (by kernel_rfl) (by kernel_rfl) (by kernel_rfl) (fun _ _ _ h => h) (by rfl) ?_ ?_
          rotate_left
          · (intro W hSw; have hcW := hSw.cells; try simp only [World.size_drew, World.cell?_drew] at hcW
             go_simp; first | done | rfl)
          try simp only [Act.put, List.setIfInBounds_toArray, List.set_cons_zero, List.set_cons_succ]
          -- 3 Op.fieldAddr 38 (Operand.tmp 15) 0
          refine wpMono_take' 3 (v := ?_) rfl (by kernel_rfl) (by kernel_rfl) (by kernel_rfl) (fun _ _ _ h => h) (by rfl) ?_ ?_
          rotate_left
          · (intro W hSw; have hcW := hSw.cells; try simp only [World.size_drew, World.cell?_drew] at hcW
             go_simp; first | done | rfl)
          try simp only [Act.put, List.setIfInBounds_toArray, List.set_cons_zero, List.set_cons_succ]
          -- 4 Op.load 9 (Operand.tmp 16)
          refine wpMono_take' 4 (v := ?_) rfl (by kernel_rfl) (by kernel_rfl) (by kernel_rfl) (fun _ _ _ h => h) (by rfl) ?_ ?_
          rotate_left
          · (intro W hSw; have hcW := hSw.cells; try simp only [World.size_drew, World.cell?_drew] at hcW
             go_simp; first | done | rfl)
          try simp only [Act.put, List.setIfInBounds_toArray, List.set_cons_zero, List.set_cons_succ]
          -- 5 Op.move (Operand.tmp 0)
          refine wpMono_take' 5 (v := ?_) rfl (by kernel_rfl) (by kernel_rfl) (by kernel_rfl) (fun _ _ _ h => h) (by rfl) ?_ ?_
          rotate_left
          · (intro W hSw; have hcW := hSw.cells; try simp only [World.size_drew, World.cell?_drew] at hcW
             go_simp; first | done | rfl)
          try simp only [Act.put, List.setIfInBounds_toArray, List.set_cons_zero, List.set_cons_succ]
          -- 6 Op.move (Operand.tmp 3)
          refine wpMono_take' 6 (v := ?_) rfl (by kernel_rfl) (by kernel_rfl) (by kernel_rfl) (fun _ _ _ h => h) (by rfl) ?_ ?_
          rotate_left
          · (intro W hSw; have hcW := hSw.cells; try simp only [World.size_drew, World.cell?_drew] at hcW
             go_simp; first | done | rfl)
          try simp only [Act.put, List.setIfInBounds_toArray, List.set_cons_zero, List.set_cons_succ]
          -- 7 Op.indexAddr 35 (Operand.tmp 18) (Operand.tmp 19)
          refine wpMono_take' 7 (v := ?_) rfl (by kernel_rfl) (by kernel_rfl) (by kernel_rfl) (fun _ _ _ h => h) (by rfl) ?_ ?_
          rotate_left
          · (intro W hSw; have hcW := hSw.cells; try simp only [World.size_drew, World.cell?_drew] at hcW
             go_simp; first | done | rfl)
          try simp only [Act.put, List.setIfInBounds_toArray, List.set_cons_zero, List.set_cons_succ]
          -- 8 Op.fieldAddr 38 (Operand.tmp 20) 1
          refine wpMono_take' 8 (v := ?_) rfl (by kernel_rfl) (by kernel_rfl) (by kernel_rfl) (fun _ _ _ h => h) (by rfl) ?_ ?_
          rotate_left
          · (intro W hSw; have hcW := hSw.cells; try simp only [World.size_drew, World.cell?_drew] at hcW
             go_simp; first | done | rfl)
          try simp only [Act.put, List.setIfInBounds_toArray, List.set_cons_zero, List.set_cons_succ]
          -- 9 Op.load 3 (Operand.tmp 21)
          refine wpMono_take' 9 (v := ?_) rfl (by kernel_rfl) (by kernel_rfl) (by kernel_rfl) (fun _ _ _ h => h) (by rfl) ?_ ?_
          rotate_left
          · (intro W hSw; have hcW := hSw.cells; try simp only [World.size_drew, World.cell?_drew] at hcW
             go_simp; first | done | rfl)
          try simp only [Act.put, List.setIfInBounds_toArray, List.set_cons_zero, List.set_cons_succ]
          -- EFFECT 10 Op.call { callee := Callee.value (Operand.func 30), args := #[Operand.tmp 17, Operand.tmp 22], argTypes := #[9, 3] }
          refine wpMono_one' 10 (by kernel_rfl) rfl (by rfl) (fun K hK => ?_)
          go_simp
          refine (Hra.out _).mono ?_
          rintro e w2 ⟨rfl, rfl⟩
          refine hK.out _ _ ?_ ?_
          · exact .refl _ _
          clear hK K
          try simp only [Act.put, List.setIfInBounds_toArray, List.set_cons_zero, List.set_cons_succ]
          -- 11 Op.unOp UnOp.not 4 (Operand.tmp 23)
          refine wpMono_take' 11 (v := ?_) rfl (by kernel_rfl) (by kernel_rfl) (by kernel_rfl) (fun _ _ _ h => h) (by rfl) ?_ ?_
          rotate_left
          · (intro W hSw; have hcW := hSw.cells; try simp only [World.size_drew, World.cell?_drew] at hcW
             go_simp; first | done | rfl)
          try simp only [Act.put, List.setIfInBounds_toArray, List.set_cons_zero, List.set_cons_succ]
          -- 12 Op.move (Operand.tmp 24)
          refine wpMono_take' 12 (v := ?_) rfl (by kernel_rfl) (by kernel_rfl) (by kernel_rfl) (fun _ _ _ h => h) (by rfl) ?_ ?_
          rotate_left
          · (intro W hSw; have hcW := hSw.cells; try simp only [World.size_drew, World.cell?_drew] at hcW
             go_simp; first | done | rfl)
          try simp only [Act.put, List.setIfInBounds_toArray, List.set_cons_zero, List.set_cons_succ]
          -- 13 Op.move (Operand.tmp 3)
          refine wpMono_skip' 13 rfl (by kernel_rfl) (by kernel_rfl) (by kernel_rfl) (fun _ _ _ h => h) (by rfl) ?_
          try simp only [Act.put, List.setIfInBounds_toArray, List.set_cons_zero, List.set_cons_succ]
          -- 14 Op.binOp BinOp.gtr 3 (Operand.tmp 26) (Operand.const (Value.int IntKind.i64 0)) 3
          refine wpMono_skip' 14 rfl (by kernel_rfl) (by kernel_rfl) (by kernel_rfl) (fun _ _ _ h => h) (by rfl) ?_
          try simp only [Act.put, List.setIfInBounds_toArray, List.set_cons_zero, List.set_cons_succ]
          -- 15 Op.move (Operand.tmp 27)
          refine wpMono_skip' 15 rfl (by kernel_rfl) (by kernel_rfl) (by kernel_rfl) (fun _ _ _ h => h) (by rfl) ?_
          try simp only [Act.put, List.setIfInBounds_toArray, List.set_cons_zero, List.set_cons_succ]
          -- 16 Op.move (Operand.tmp 0)
          refine wpMono_skip' 16 rfl (by kernel_rfl) (by kernel_rfl) (by kernel_rfl) (fun _ _ _ h => h) (by rfl) ?_
          try simp only [Act.put, List.setIfInBounds_toArray, List.set_cons_zero, List.set_cons_succ]
          -- 17 Op.move (Operand.tmp 3)
          refine wpMono_skip' 17 rfl (by kernel_rfl) (by kernel_rfl) (by kernel_rfl) (fun _ _ _ h => h) (by rfl) ?_
          try simp only [Act.put, List.setIfInBounds_toArray, List.set_cons_zero, List.set_cons_succ]
          -- 18 Op.indexAddr 35 (Operand.tmp 29) (Operand.tmp 30)
          refine wpMono_skip' 18 rfl (by kernel_rfl) (by kernel_rfl) (by kernel_rfl) (fun _ _ _ h => h) (by rfl) ?_
          try simp only [Act.put, List.setIfInBounds_toArray, List.set_cons_zero, List.set_cons_succ]
          -- 19 Op.fieldAddr 38 (Operand.tmp 31) 0
          refine wpMono_skip' 19 rfl (by kernel_rfl) (by kernel_rfl) (by kernel_rfl) (fun _ _ _ h => h) (by rfl) ?_
          try simp only [Act.put, List.setIfInBounds_toArray, List.set_cons_zero, List.set_cons_succ]
          -- 20 Op.load 9 (Operand.tmp 32)
          refine wpMono_skip' 20 rfl (by kernel_rfl) (by kernel_rfl) (by kernel_rfl) (fun _ _ _ h => h) (by rfl) ?_
          try simp only [Act.put, List.setIfInBounds_toArray, List.set_cons_zero, List.set_cons_succ]
          -- 21 Op.move (Operand.tmp 0)
          refine wpMono_skip' 21 rfl (by kernel_rfl) (by kernel_rfl) (by kernel_rfl) (fun _ _ _ h => h) (by rfl) ?_
          try simp only [Act.put, List.setIfInBounds_toArray, List.set_cons_zero, List.set_cons_succ]
          -- 22 Op.move (Operand.tmp 3)
          refine wpMono_skip' 22 rfl (by kernel_rfl) (by kernel_rfl) (by kernel_rfl) (fun _ _ _ h => h) (by rfl) ?_
          try simp only [Act.put, List.setIfInBounds_toArray, List.set_cons_zero, List.set_cons_succ]
          -- 23 Op.binOp BinOp.sub 3 (Operand.tmp 35) (Operand.const (Value.int IntKind.i64 1)) 3
          refine wpMono_skip' 23 rfl (by kernel_rfl) (by kernel_rfl) (by kernel_rfl) (fun _ _ _ h => h) (by rfl) ?_
          try simp only [Act.put, List.setIfInBounds_toArray, List.set_cons_zero, List.set_cons_succ]
          -- 24 Op.indexAddr 35 (Operand.tmp 34) (Operand.tmp 36)
          refine wpMono_skip' 24 rfl (by kernel_rfl) (by kernel_rfl) (by kernel_rfl) (fun _ _ _ h => h) (by rfl) ?_
          try simp only [Act.put, List.setIfInBounds_toArray, List.set_cons_zero, List.set_cons_succ]
          -- 25 Op.fieldAddr 38 (Operand.tmp 37) 0
          refine wpMono_skip' 25 rfl (by kernel_rfl) (by kernel_rfl) (by kernel_rfl) (fun _ _ _ h => h) (by rfl) ?_
          try simp only [Act.put, List.setIfInBounds_toArray, List.set_cons_zero, List.set_cons_succ]
          -- 26 Op.load 9 (Operand.tmp 38)
          refine wpMono_skip' 26 rfl (by kernel_rfl) (by kernel_rfl) (by kernel_rfl) (fun _ _ _ h => h) (by rfl) ?_
          try simp only [Act.put, List.setIfInBounds_toArray, List.set_cons_zero, List.set_cons_succ]
          -- 27 Op.binOp BinOp.leq 9 (Operand.tmp 33) (Operand.tmp 39) 9
          refine wpMono_skip' 27 rfl (by kernel_rfl) (by kernel_rfl) (by kernel_rfl) (fun _ _ _ h => h) (by rfl) ?_
          try simp only [Act.put, List.setIfInBounds_toArray, List.set_cons_zero, List.set_cons_succ]
          -- 28 Op.pick (Operand.tmp 28) (Operand.tmp 40) (Operand.const (Value.bool false))
          refine wpMono_skip' 28 rfl (by kernel_rfl) (by kernel_rfl) (by kernel_rfl) (fun _ _ _ h => h) (by rfl) ?_
          try simp only [Act.put, List.setIfInBounds_toArray, List.set_cons_zero, List.set_cons_succ]
          -- 29 Op.pick (Operand.tmp 25) (Operand.const (Value.bool true)) (Operand.tmp 41)
          refine wpMono_take' 29 (v := ?_) rfl (by kernel_rfl) (by kernel_rfl) (by kernel_rfl) (fun _ _ _ h => h) (by rfl) ?_ ?_
          rotate_left
          · (intro W hSw; have hcW := hSw.cells; try simp only [World.size_drew, World.cell?_drew] at hcW
             go_simp; first | done | rfl)
          try simp only [Act.put, List.setIfInBounds_toArray, List.set_cons_zero, List.set_cons_succ]
          refine wpMono_done (by kernel_rfl) ?_ _
          go_wp2
          go_ret
          exact HH.out
        · rw [hr] at hra
          have Hrt := Lib.hid hr
          have Hra := Lib.hid hra
          clear hra
          clear hr
          rcases hmax with h0 | h0
          · obtain ⟨j, rfl⟩ : ∃ j, k = j + 1 := ⟨k - 1, by omega⟩
            obtain ⟨hpl, hpc⟩ := Hp.out h0
            simp only [Nat.add_sub_cancel] at hpl hpc
            have hwj : IntKind.i64.wrap (j : Int) = j := IntWalk.i64_in _ (by omega)
            have hj1 : (j : Int) < len := by omega
            have hleq := leq_str xu pu
            rw [bad_iff] at hleq
            have Hpl := Lib.hid hpl
            clear hpl
            by_cases hbp : bl pu xu = true
            · rw [hbp] at hleq
              have hab : ∀ p : Ep, 0 < j + 1 → L[j + 1 - 1]? = some p → bl p.u xu = true := fun p _ hp2 => by
                simp only [Nat.add_sub_cancel] at hp2; rw [Hpl.out] at hp2; injection hp2 with hp2; subst hp2; exact hbp
              have hfin := Hgrow.out hab Hrt.out
              have Hfin := Lib.hid hfin
              clear hab hbp hfin
              go_wp2_with fail
              refine wp_region_mono nobody (by kernel_rfl) ?_
              -- 0 Op.move (Operand.tmp 0)
              refine wpMono_take' 0 (v := ?_) rfl (by kernel_rfl) (by kernel_rfl) (by kernel_rfl) (fun _ _ _ h => h) (by rfl) ?_ ?_
              rotate_left
              · (intro W hSw; have hcW := hSw.cells; try simp only [World.size_drew, World.cell?_drew] at hcW
                 go_simp; first | done | rfl)
              try simp only [Act.put, List.setIfInBounds_toArray, List.set_cons_zero, List.set_cons_succ]
              -- 1 Op.move (Operand.tmp 3)
              refine wpMono_take' 1 (v := ?_) rfl (by kernel_rfl) (by kernel_rfl) (by kernel_rfl) (fun _ _ _ h => h) (by rfl) ?_ ?_
              rotate_left
              · (intro W hSw; have hcW := hSw.cells; try simp only [World.size_drew, World.cell?_drew] at hcW
                 go_simp; first | done | rfl)
              try simp only [Act.put, List.setIfInBounds_toArray, List.set_cons_zero, List.set_cons_succ]
              -- 2 Op.indexAddr 35 (Operand.tmp 13) (Operand.tmp 14)
              refine wpMono_take' 2 (v := ?_) rfl (by kernel_rfl) (by kernel_rfl) (by kernel_rfl) (fun _ _ _ h => h) (by rfl) ?_ ?_
              rotate_left
              · (intro W hSw; have hcW := hSw.cells; try simp only [World.size_drew, World.cell?_drew] at hcW
                 go_simp; first | done | rfl)
              try simp only [Act.put, List.setIfInBounds_toArray, List.set_cons_zero, List.set_cons_succ]
              -- 3 Op.fieldAddr 38 (Operand.tmp 15) 0
              refine wpMono_take' 3 (v := ?_) rfl (by kernel_rfl) (by kernel_rfl) (by kernel_rfl) (fun _ _ _ h => h) (by rfl) ?_ ?_
              rotate_left
              · (intro W hSw; have hcW := hSw.cells; try simp only [World.size_drew, World.cell?_drew] at hcW
                 go_simp; first | done | rfl)
              try simp only [Act.put, List.setIfInBounds_toArray, List.set_cons_zero, List.set_cons_succ]
              -- 4 Op.load 9 (Operand.tmp 16)
              refine wpMono_take' 4 (v := ?_) rfl (by kernel_rfl) (by kernel_rfl) (by kernel_rfl) (fun _ _ _ h => h) (by rfl) ?_ ?_
              rotate_left
              · (intro W hSw; have hcW := hSw.cells; try simp only [World.size_drew, World.cell?_drew] at hcW
                 go_simp; first | done | rfl)
              try simp only [Act.put, List.setIfInBounds_toArray, List.set_cons_zero, List.set_cons_succ]
              -- 5 Op.move (Operand.tmp 0)
              refine wpMono_take' 5 (v := ?_) rfl (by kernel_rfl) (by kernel_rfl) (by kernel_rfl) (fun _ _ _ h => h) (by rfl) ?_ ?_
              rotate_left
              · (intro W hSw; have hcW := hSw.cells; try simp only [World.size_drew, World.cell?_drew] at hcW
                 go_simp; first | done | rfl)
              try simp only [Act.put, List.setIfInBounds_toArray, List.set_cons_zero, List.set_cons_succ]
              -- 6 Op.move (Operand.tmp 3)
              refine wpMono_take' 6 (v := ?_) rfl (by kernel_rfl) (by kernel_rfl) (by kernel_rfl) (fun _ _ _ h => h) (by rfl) ?_ ?_
              rotate_left
              · (intro W hSw; have hcW := hSw.cells; try simp only [World.size_drew, World.cell?_drew] at hcW
                 go_simp; first | done | rfl)
              try simp only [Act.put, List.setIfInBounds_toArray, List.set_cons_zero, List.set_cons_succ]
              -- 7 Op.indexAddr 35 (Operand.tmp 18) (Operand.tmp 19)
              refine wpMono_take' 7 (v := ?_) rfl (by kernel_rfl) (by kernel_rfl) (by kernel_rfl) (fun _ _ _ h => h) (by rfl) ?_ ?_
              rotate_left
              · (intro W hSw; have hcW := hSw.cells; try simp only [World.size_drew, World.cell?_drew] at hcW
                 go_simp; first | done | rfl)
              try simp only [Act.put, List.setIfInBounds_toArray, List.set_cons_zero, List.set_cons_succ]
              -- 8 Op.fieldAddr 38 (Operand.tmp 20) 1
              refine wpMono_take' 8 (v := ?_) rfl (by kernel_rfl) (by kernel_rfl) (by kernel_rfl) (fun _ _ _ h => h) (by rfl) ?_ ?_
              rotate_left
              · (intro W hSw; have hcW := hSw.cells; try simp only [World.size_drew, World.cell?_drew] at hcW
                 go_simp; first | done | rfl)
              try simp only [Act.put, List.setIfInBounds_toArray, List.set_cons_zero, List.set_cons_succ]
              -- 9 Op.load 3 (Operand.tmp 21)
              refine wpMono_take' 9 (v := ?_) rfl (by kernel_rfl) (by kernel_rfl) (by kernel_rfl) (fun _ _ _ h => h) (by rfl) ?_ ?_
              rotate_left
              · (intro W hSw; have hcW := hSw.cells; try simp only [World.size_drew, World.cell?_drew] at hcW
                 go_simp; first | done | rfl)
              try simp only [Act.put, List.setIfInBounds_toArray, List.set_cons_zero, List.set_cons_succ]
              -- EFFECT 10 Op.call { callee := Callee.value (Operand.func 30), args := #[Operand.tmp 17, Operand.tmp 22], argTypes := #[9, 3] }
              refine wpMono_one' 10 (by kernel_rfl) rfl (by rfl) (fun K hK => ?_)
              go_simp
              refine (Hra.out _).mono ?_
              rintro e w2 ⟨rfl, rfl⟩
              refine hK.out _ _ ?_ ?_
              · exact .refl _ _
              clear hK K
              try simp only [Act.put, List.setIfInBounds_toArray, List.set_cons_zero, List.set_cons_succ]
              -- 11 Op.unOp UnOp.not 4 (Operand.tmp 23)
              refine wpMono_take' 11 (v := ?_) rfl (by kernel_rfl) (by kernel_rfl) (by kernel_rfl) (fun _ _ _ h => h) (by rfl) ?_ ?_
              rotate_left
              · (intro W hSw; have hcW := hSw.cells; try simp only [World.size_drew, World.cell?_drew] at hcW
                 go_simp; first | done | rfl)
              try simp only [Act.put, List.setIfInBounds_toArray, List.set_cons_zero, List.set_cons_succ]
              -- 12 Op.move (Operand.tmp 24)
              refine wpMono_take' 12 (v := ?_) rfl (by kernel_rfl) (by kernel_rfl) (by kernel_rfl) (fun _ _ _ h => h) (by rfl) ?_ ?_
              rotate_left
              · (intro W hSw; have hcW := hSw.cells; try simp only [World.size_drew, World.cell?_drew] at hcW
                 go_simp; first | done | rfl)
              try simp only [Act.put, List.setIfInBounds_toArray, List.set_cons_zero, List.set_cons_succ]
              -- 13 Op.move (Operand.tmp 3)
              refine wpMono_take' 13 (v := ?_) rfl (by kernel_rfl) (by kernel_rfl) (by kernel_rfl) (fun _ _ _ h => h) (by rfl) ?_ ?_
              rotate_left
              · (intro W hSw; have hcW := hSw.cells; try simp only [World.size_drew, World.cell?_drew] at hcW
                 go_simp; first | done | rfl)
              try simp only [Act.put, List.setIfInBounds_toArray, List.set_cons_zero, List.set_cons_succ]
              -- 14 Op.binOp BinOp.gtr 3 (Operand.tmp 26) (Operand.const (Value.int IntKind.i64 0)) 3
              refine wpMono_take' 14 (v := ?_) rfl (by kernel_rfl) (by kernel_rfl) (by kernel_rfl) (fun _ _ _ h => h) (by rfl) ?_ ?_
              rotate_left
              · (intro W hSw; have hcW := hSw.cells; try simp only [World.size_drew, World.cell?_drew] at hcW
                 go_simp; first | done | rfl)
              try simp only [Act.put, List.setIfInBounds_toArray, List.set_cons_zero, List.set_cons_succ]
              -- 15 Op.move (Operand.tmp 27)
              refine wpMono_take' 15 (v := ?_) rfl (by kernel_rfl) (by kernel_rfl) (by kernel_rfl) (fun _ _ _ h => h) (by rfl) ?_ ?_
              rotate_left
              · (intro W hSw; have hcW := hSw.cells; try simp only [World.size_drew, World.cell?_drew] at hcW
                 go_simp; first | done | rfl)
              try simp only [Act.put, List.setIfInBounds_toArray, List.set_cons_zero, List.set_cons_succ]
              -- 16 Op.move (Operand.tmp 0)
              refine wpMono_take' 16 (v := ?_) rfl (by kernel_rfl) (by kernel_rfl) (by kernel_rfl) (fun _ _ _ h => h) (by rfl) ?_ ?_
              rotate_left
              · (intro W hSw; have hcW := hSw.cells; try simp only [World.size_drew, World.cell?_drew] at hcW
                 go_simp; first | done | rfl)
              try simp only [Act.put, List.setIfInBounds_toArray, List.set_cons_zero, List.set_cons_succ]
              -- 17 Op.move (Operand.tmp 3)
              refine wpMono_take' 17 (v := ?_) rfl (by kernel_rfl) (by kernel_rfl) (by kernel_rfl) (fun _ _ _ h => h) (by rfl) ?_ ?_
              rotate_left
              · (intro W hSw; have hcW := hSw.cells; try simp only [World.size_drew, World.cell?_drew] at hcW
                 go_simp; first | done | rfl)
              try simp only [Act.put, List.setIfInBounds_toArray, List.set_cons_zero, List.set_cons_succ]
              -- 18 Op.indexAddr 35 (Operand.tmp 29) (Operand.tmp 30)
              refine wpMono_take' 18 (v := ?_) rfl (by kernel_rfl) (by kernel_rfl) (by kernel_rfl) (fun _ _ _ h => h) (by rfl) ?_ ?_
              rotate_left
              · (intro W hSw; have hcW := hSw.cells; try simp only [World.size_drew, World.cell?_drew] at hcW
                 go_simp; first | done | rfl)
              try simp only [Act.put, List.setIfInBounds_toArray, List.set_cons_zero, List.set_cons_succ]
              -- 19 Op.fieldAddr 38 (Operand.tmp 31) 0
              refine wpMono_take' 19 (v := ?_) rfl (by kernel_rfl) (by kernel_rfl) (by kernel_rfl) (fun _ _ _ h => h) (by rfl) ?_ ?_
              rotate_left
              · (intro W hSw; have hcW := hSw.cells; try simp only [World.size_drew, World.cell?_drew] at hcW
                 go_simp; first | done | rfl)
              try simp only [Act.put, List.setIfInBounds_toArray, List.set_cons_zero, List.set_cons_succ]
              -- 20 Op.load 9 (Operand.tmp 32)
              refine wpMono_take' 20 (v := ?_) rfl (by kernel_rfl) (by kernel_rfl) (by kernel_rfl) (fun _ _ _ h => h) (by rfl) ?_ ?_
              rotate_left
              · (intro W hSw; have hcW := hSw.cells; try simp only [World.size_drew, World.cell?_drew] at hcW
                 go_simp; first | done | rfl)
              try simp only [Act.put, List.setIfInBounds_toArray, List.set_cons_zero, List.set_cons_succ]
              -- 21 Op.move (Operand.tmp 0)
              refine wpMono_take' 21 (v := ?_) rfl (by kernel_rfl) (by kernel_rfl) (by kernel_rfl) (fun _ _ _ h => h) (by rfl) ?_ ?_
              rotate_left
              · (intro W hSw; have hcW := hSw.cells; try simp only [World.size_drew, World.cell?_drew] at hcW
                 go_simp; first | done | rfl)
              try simp only [Act.put, List.setIfInBounds_toArray, List.set_cons_zero, List.set_cons_succ]
              -- 22 Op.move (Operand.tmp 3)
              refine wpMono_take' 22 (v := ?_) rfl (by kernel_rfl) (by kernel_rfl) (by kernel_rfl) (fun _ _ _ h => h) (by rfl) ?_ ?_
              rotate_left
              · (intro W hSw; have hcW := hSw.cells; try simp only [World.size_drew, World.cell?_drew] at hcW
                 go_simp; first | done | rfl)
              try simp only [Act.put, List.setIfInBounds_toArray, List.set_cons_zero, List.set_cons_succ]
              -- 23 Op.binOp BinOp.sub 3 (Operand.tmp 35) (Operand.const (Value.int IntKind.i64 1)) 3
              refine wpMono_take' 23 (v := ?_) rfl (by kernel_rfl) (by kernel_rfl) (by kernel_rfl) (fun _ _ _ h => h) (by rfl) ?_ ?_
              rotate_left
              · (intro W hSw; have hcW := hSw.cells; try simp only [World.size_drew, World.cell?_drew] at hcW
                 go_simp; first | done | rfl)
              try simp only [Act.put, List.setIfInBounds_toArray, List.set_cons_zero, List.set_cons_succ]
              -- 24 Op.indexAddr 35 (Operand.tmp 34) (Operand.tmp 36)
              refine wpMono_take' 24 (v := ?_) rfl (by kernel_rfl) (by kernel_rfl) (by kernel_rfl) (fun _ _ _ h => h) (by rfl) ?_ ?_
              rotate_left
              · (intro W hSw; have hcW := hSw.cells; try simp only [World.size_drew, World.cell?_drew] at hcW
                 go_simp; first | done | rfl)
              try simp only [Act.put, List.setIfInBounds_toArray, List.set_cons_zero, List.set_cons_succ]
              -- 25 Op.fieldAddr 38 (Operand.tmp 37) 0
              refine wpMono_take' 25 (v := ?_) rfl (by kernel_rfl) (by kernel_rfl) (by kernel_rfl) (fun _ _ _ h => h) (by rfl) ?_ ?_
              rotate_left
              · (intro W hSw; have hcW := hSw.cells; try simp only [World.size_drew, World.cell?_drew] at hcW
                 go_simp; first | done | rfl)
              try simp only [Act.put, List.setIfInBounds_toArray, List.set_cons_zero, List.set_cons_succ]
              -- 26 Op.load 9 (Operand.tmp 38)
              refine wpMono_take' 26 (v := ?_) rfl (by kernel_rfl) (by kernel_rfl) (by kernel_rfl) (fun _ _ _ h => h) (by rfl) ?_ ?_
              rotate_left
              · (intro W hSw; have hcW := hSw.cells; try simp only [World.size_drew, World.cell?_drew] at hcW
                 go_simp; first | done | rfl)
              try simp only [Act.put, List.setIfInBounds_toArray, List.set_cons_zero, List.set_cons_succ]
              -- 27 Op.binOp BinOp.leq 9 (Operand.tmp 33) (Operand.tmp 39) 9
              refine wpMono_take' 27 (v := ?_) rfl (by kernel_rfl) (by kernel_rfl) (by kernel_rfl) (fun _ _ _ h => h) (by rfl) ?_ ?_
              rotate_left
              · (intro W hSw; have hcW := hSw.cells; try simp only [World.size_drew, World.cell?_drew] at hcW
                 go_simp; first | done | rfl)
              try simp only [Act.put, List.setIfInBounds_toArray, List.set_cons_zero, List.set_cons_succ]
              -- 28 Op.pick (Operand.tmp 28) (Operand.tmp 40) (Operand.const (Value.bool false))
              refine wpMono_take' 28 (v := ?_) rfl (by kernel_rfl) (by kernel_rfl) (by kernel_rfl) (fun _ _ _ h => h) (by rfl) ?_ ?_
              rotate_left
              · (intro W hSw; have hcW := hSw.cells; try simp only [World.size_drew, World.cell?_drew] at hcW
                 go_simp; first | done | rfl)
              try simp only [Act.put, List.setIfInBounds_toArray, List.set_cons_zero, List.set_cons_succ]
              -- 29 Op.pick (Operand.tmp 25) (Operand.const (Value.bool true)) (Operand.tmp 41)
              refine wpMono_take' 29 (v := ?_) rfl (by kernel_rfl) (by kernel_rfl) (by kernel_rfl) (fun _ _ _ h => h) (by rfl) ?_ ?_
              rotate_left
              · (intro W hSw; have hcW := hSw.cells; try simp only [World.size_drew, World.cell?_drew] at hcW
                 go_simp; first | done | rfl)
              try simp only [Act.put, List.setIfInBounds_toArray, List.set_cons_zero, List.set_cons_succ]
              refine wpMono_done (by kernel_rfl) ?_ _
              go_wp2
              go_roundw
              case rel => exact ⟨j + 1 + 1, by omega, by go_num, Hfin.out, Hbw.out.drew⟩
              case measure => simp [intOf]; omega
            · have hng : ¬ GoodL L := fun hL => hbp ((Hfail.out hL).2 _ h0 (by simp only [Nat.add_sub_cancel]; exact Hpl.out))
              rw [show bl pu xu = false by simpa using hbp] at hleq
              have hh : RightR L w (.returned (.bool false)) wr.drew := .inr ⟨hng, rfl, Hbw.out.drew⟩
              have HH := Lib.hid hh
              clear hh
              clear hng hbp
              go_wp2_with fail
              refine wp_region_mono nobody (by kernel_rfl) ?_
              -- 0 Op.move (Operand.tmp 0)
              refine wpMono_take' 0 (v := ?_) rfl (by kernel_rfl) (by kernel_rfl) (by kernel_rfl) (fun _ _ _ h => h) (by rfl) ?_ ?_
              rotate_left
              · (intro W hSw; have hcW := hSw.cells; try simp only [World.size_drew, World.cell?_drew] at hcW
                 go_simp; first | done | rfl)
              try simp only [Act.put, List.setIfInBounds_toArray, List.set_cons_zero, List.set_cons_succ]
              -- 1 Op.move (Operand.tmp 3)
              refine wpMono_take' 1 (v := ?_) rfl (by kernel_rfl) (by kernel_rfl) (by kernel_rfl) (fun _ _ _ h => h) (by rfl) ?_ ?_
              rotate_left
              · (intro W hSw; have hcW := hSw.cells; try simp only [World.size_drew, World.cell?_drew] at hcW
                 go_simp; first | done | rfl)
              try simp only [Act.put, List.setIfInBounds_toArray, List.set_cons_zero, List.set_cons_succ]
              -- 2 Op.indexAddr 35 (Operand.tmp 13) (Operand.tmp 14)
              refine wpMono_take' 2 (v := ?_) rfl (by kernel_rfl) (by kernel_rfl) (by kernel_rfl) (fun _ _ _ h => h) (by rfl) ?_ ?_
              rotate_left
              · (intro W hSw; have hcW := hSw.cells; try simp only [World.size_drew, World.cell?_drew] at hcW
                 go_simp; first | done | rfl)
              try simp only [Act.put, List.setIfInBounds_toArray, List.set_cons_zero, List.set_cons_succ]
              -- 3 Op.fieldAddr 38 (Operand.tmp 15) 0
              refine wpMono_take' 3 (v := ?_) rfl (by kernel_rfl) (by kernel_rfl) (by kernel_rfl) (fun _ _ _ h => h) (by rfl) ?_ ?_
              rotate_left
              · (intro W hSw; have hcW := hSw.cells; try simp only [World.size_drew, World.cell?_drew] at hcW
                 go_simp; first | done | rfl)
              try simp only [Act.put, List.setIfInBounds_toArray, List.set_cons_zero, List.set_cons_succ]
              -- 4 Op.load 9 (Operand.tmp 16)
              refine wpMono_take' 4 (v := ?_) rfl (by kernel_rfl) (by kernel_rfl) (by kernel_rfl) (fun _ _ _ h => h) (by rfl) ?_ ?_
              rotate_left
              · (intro W hSw; have hcW := hSw.cells; try simp only [World.size_drew, World.cell?_drew] at hcW
                 go_simp; first | done | rfl)
              try simp only [Act.put, List.setIfInBounds_toArray, List.set_cons_zero, List.set_cons_succ]
              -- 5 Op.move (Operand.tmp 0)
              refine wpMono_take' 5 (v := ?_) rfl (by kernel_rfl) (by kernel_rfl) (by kernel_rfl) (fun _ _ _ h => h) (by rfl) ?_ ?_
              rotate_left
              · (intro W hSw; have hcW := hSw.cells; try simp only [World.size_drew, World.cell?_drew] at hcW
                 go_simp; first | done | rfl)
              try simp only [Act.put, List.setIfInBounds_toArray, List.set_cons_zero, List.set_cons_succ]
              -- 6 Op.move (Operand.tmp 3)
              refine wpMono_take' 6 (v := ?_) rfl (by kernel_rfl) (by kernel_rfl) (by kernel_rfl) (fun _ _ _ h => h) (by rfl) ?_ ?_
              rotate_left
              · (intro W hSw; have hcW := hSw.cells; try simp only [World.size_drew, World.cell?_drew] at hcW
                 go_simp; first | done | rfl)
              try simp only [Act.put, List.setIfInBounds_toArray, List.set_cons_zero, List.set_cons_succ]
              -- 7 Op.indexAddr 35 (Operand.tmp 18) (Operand.tmp 19)
              refine wpMono_take' 7 (v := ?_) rfl (by kernel_rfl) (by kernel_rfl) (by kernel_rfl) (fun _ _ _ h => h) (by rfl) ?_ ?_
              rotate_left
              · (intro W hSw; have hcW := hSw.cells; try simp only [World.size_drew, World.cell?_drew] at hcW
                 go_simp; first | done | rfl)
              try simp only [Act.put, List.setIfInBounds_toArray, List.set_cons_zero, List.set_cons_succ]
              -- 8 Op.fieldAddr 38 (Operand.tmp 20) 1
              refine wpMono_take' 8 (v := ?_) rfl (by kernel_rfl) (by kernel_rfl) (by kernel_rfl) (fun _ _ _ h => h) (by rfl) ?_ ?_
              rotate_left
              · (intro W hSw; have hcW := hSw.cells; try simp only [World.size_drew, World.cell?_drew] at hcW
                 go_simp; first | done | rfl)
              try simp only [Act.put, List.setIfInBounds_toArray, List.set_cons_zero, List.set_cons_succ]
              -- 9 Op.load 3 (Operand.tmp 21)
              refine wpMono_take' 9 (v := ?_) rfl (by kernel_rfl) (by kernel_rfl) (by kernel_rfl) (fun _ _ _ h => h) (by rfl) ?_ ?_
              rotate_left
              · (intro W hSw; have hcW := hSw.cells; try simp only [World.size_drew, World.cell?_drew] at hcW
                 go_simp; first | done | rfl)
              try simp only [Act.put, List.setIfInBounds_toArray, List.set_cons_zero, List.set_cons_succ]
              -- EFFECT 10 Op.call { callee := Callee.value (Operand.func 30), args := #[Operand.tmp 17, Operand.tmp 22], argTypes := #[9, 3] }
              refine wpMono_one' 10 (by kernel_rfl) rfl (by rfl) (fun K hK => ?_)
              go_simp
              refine (Hra.out _).mono ?_
              rintro e w2 ⟨rfl, rfl⟩
              refine hK.out _ _ ?_ ?_
              · exact .refl _ _
              clear hK K
              try simp only [Act.put, List.setIfInBounds_toArray, List.set_cons_zero, List.set_cons_succ]
              -- 11 Op.unOp UnOp.not 4 (Operand.tmp 23)
              refine wpMono_take' 11 (v := ?_) rfl (by kernel_rfl) (by kernel_rfl) (by kernel_rfl) (fun _ _ _ h => h) (by rfl) ?_ ?_
              rotate_left
              · (intro W hSw; have hcW := hSw.cells; try simp only [World.size_drew, World.cell?_drew] at hcW
                 go_simp; first | done | rfl)
              try simp only [Act.put, List.setIfInBounds_toArray, List.set_cons_zero, List.set_cons_succ]
              -- 12 Op.move (Operand.tmp 24)
              refine wpMono_take' 12 (v := ?_) rfl (by kernel_rfl) (by kernel_rfl) (by kernel_rfl) (fun _ _ _ h => h) (by rfl) ?_ ?_
              rotate_left
              · (intro W hSw; have hcW := hSw.cells; try simp only [World.size_drew, World.cell?_drew] at hcW
                 go_simp; first | done | rfl)
              try simp only [Act.put, List.setIfInBounds_toArray, List.set_cons_zero, List.set_cons_succ]
              -- 13 Op.move (Operand.tmp 3)
              refine wpMono_take' 13 (v := ?_) rfl (by kernel_rfl) (by kernel_rfl) (by kernel_rfl) (fun _ _ _ h => h) (by rfl) ?_ ?_
              rotate_left
              · (intro W hSw; have hcW := hSw.cells; try simp only [World.size_drew, World.cell?_drew] at hcW
                 go_simp; first | done | rfl)
              try simp only [Act.put, List.setIfInBounds_toArray, List.set_cons_zero, List.set_cons_succ]
              -- 14 Op.binOp BinOp.gtr 3 (Operand.tmp 26) (Operand.const (Value.int IntKind.i64 0)) 3
              refine wpMono_take' 14 (v := ?_) rfl (by kernel_rfl) (by kernel_rfl) (by kernel_rfl) (fun _ _ _ h => h) (by rfl) ?_ ?_
              rotate_left
              · (intro W hSw; have hcW := hSw.cells; try simp only [World.size_drew, World.cell?_drew] at hcW
                 go_simp; first | done | rfl)
              try simp only [Act.put, List.setIfInBounds_toArray, List.set_cons_zero, List.set_cons_succ]
              -- 15 Op.move (Operand.tmp 27)
              refine wpMono_take' 15 (v := ?_) rfl (by kernel_rfl) (by kernel_rfl) (by kernel_rfl) (fun _ _ _ h => h) (by rfl) ?_ ?_
              rotate_left
              · (intro W hSw; have hcW := hSw.cells; try simp only [World.size_drew, World.cell?_drew] at hcW
                 go_simp; first | done | rfl)
              try simp only [Act.put, List.setIfInBounds_toArray, List.set_cons_zero, List.set_cons_succ]
              -- 16 Op.move (Operand.tmp 0)
              refine wpMono_take' 16 (v := ?_) rfl (by kernel_rfl) (by kernel_rfl) (by kernel_rfl) (fun _ _ _ h => h) (by rfl) ?_ ?_
              rotate_left
              · (intro W hSw; have hcW := hSw.cells; try simp only [World.size_drew, World.cell?_drew] at hcW
                 go_simp; first | done | rfl)
              try simp only [Act.put, List.setIfInBounds_toArray, List.set_cons_zero, List.set_cons_succ]
              -- 17 Op.move (Operand.tmp 3)
              refine wpMono_take' 17 (v := ?_) rfl (by kernel_rfl) (by kernel_rfl) (by kernel_rfl) (fun _ _ _ h => h) (by rfl) ?_ ?_
              rotate_left
              · (intro W hSw; have hcW := hSw.cells; try simp only [World.size_drew, World.cell?_drew] at hcW
                 go_simp; first | done | rfl)
              try simp only [Act.put, List.setIfInBounds_toArray, List.set_cons_zero, List.set_cons_succ]
              -- 18 Op.indexAddr 35 (Operand.tmp 29) (Operand.tmp 30)
              refine wpMono_take' 18 (v := ?_) rfl (by kernel_rfl) (by kernel_rfl) (by kernel_rfl) (fun _ _ _ h => h) (by rfl) ?_ ?_
              rotate_left
              · (intro W hSw; have hcW := hSw.cells; try simp only [World.size_drew, World.cell?_drew] at hcW
                 go_simp; first | done | rfl)
              try simp only [Act.put, List.setIfInBounds_toArray, List.set_cons_zero, List.set_cons_succ]
              -- 19 Op.fieldAddr 38 (Operand.tmp 31) 0
              refine wpMono_take' 19 (v := ?_) rfl (by kernel_rfl) (by kernel_rfl) (by kernel_rfl) (fun _ _ _ h => h) (by rfl) ?_ ?_
              rotate_left
              · (intro W hSw; have hcW := hSw.cells; try simp only [World.size_drew, World.cell?_drew] at hcW
                 go_simp; first | done | rfl)
              try simp only [Act.put, List.setIfInBounds_toArray, List.set_cons_zero, List.set_cons_succ]
              -- 20 Op.load 9 (Operand.tmp 32)
              refine wpMono_take' 20 (v := ?_) rfl (by kernel_rfl) (by kernel_rfl) (by kernel_rfl) (fun _ _ _ h => h) (by rfl) ?_ ?_
              rotate_left
              · (intro W hSw; have hcW := hSw.cells; try simp only [World.size_drew, World.cell?_drew] at hcW
                 go_simp; first | done | rfl)
              try simp only [Act.put, List.setIfInBounds_toArray, List.set_cons_zero, List.set_cons_succ]
              -- 21 Op.move (Operand.tmp 0)
              refine wpMono_take' 21 (v := ?_) rfl (by kernel_rfl) (by kernel_rfl) (by kernel_rfl) (fun _ _ _ h => h) (by rfl) ?_ ?_
              rotate_left
              · (intro W hSw; have hcW := hSw.cells; try simp only [World.size_drew, World.cell?_drew] at hcW
                 go_simp; first | done | rfl)
              try simp only [Act.put, List.setIfInBounds_toArray, List.set_cons_zero, List.set_cons_succ]
              -- 22 Op.move (Operand.tmp 3)
              refine wpMono_take' 22 (v := ?_) rfl (by kernel_rfl) (by kernel_rfl) (by kernel_rfl) (fun _ _ _ h => h) (by rfl) ?_ ?_
              rotate_left
              · (intro W hSw; have hcW := hSw.cells; try simp only [World.size_drew, World.cell?_drew] at hcW
                 go_simp; first | done | rfl)
              try simp only [Act.put, List.setIfInBounds_toArray, List.set_cons_zero, List.set_cons_succ]
              -- 23 Op.binOp BinOp.sub 3 (Operand.tmp 35) (Operand.const (Value.int IntKind.i64 1)) 3
              refine wpMono_take' 23 (v := ?_) rfl (by kernel_rfl) (by kernel_rfl) (by kernel_rfl) (fun _ _ _ h => h) (by rfl) ?_ ?_
              rotate_left
              · (intro W hSw; have hcW := hSw.cells; try simp only [World.size_drew, World.cell?_drew] at hcW
                 go_simp; first | done | rfl)
              try simp only [Act.put, List.setIfInBounds_toArray, List.set_cons_zero, List.set_cons_succ]
              -- 24 Op.indexAddr 35 (Operand.tmp 34) (Operand.tmp 36)
              refine wpMono_take' 24 (v := ?_) rfl (by kernel_rfl) (by kernel_rfl) (by kernel_rfl) (fun _ _ _ h => h) (by rfl) ?_ ?_
              rotate_left
              · (intro W hSw; have hcW := hSw.cells; try simp only [World.size_drew, World.cell?_drew] at hcW
                 go_simp; first | done | rfl)
              try simp only [Act.put, List.setIfInBounds_toArray, List.set_cons_zero, List.set_cons_succ]
              -- 25 Op.fieldAddr 38 (Operand.tmp 37) 0
              refine wpMono_take' 25 (v := ?_) rfl (by kernel_rfl) (by kernel_rfl) (by kernel_rfl) (fun _ _ _ h => h) (by rfl) ?_ ?_
              rotate_left
              · (intro W hSw; have hcW := hSw.cells; try simp only [World.size_drew, World.cell?_drew] at hcW
                 go_simp; first | done | rfl)
              try simp only [Act.put, List.setIfInBounds_toArray, List.set_cons_zero, List.set_cons_succ]
              -- 26 Op.load 9 (Operand.tmp 38)
              refine wpMono_take' 26 (v := ?_) rfl (by kernel_rfl) (by kernel_rfl) (by kernel_rfl) (fun _ _ _ h => h) (by rfl) ?_ ?_
              rotate_left
              · (intro W hSw; have hcW := hSw.cells; try simp only [World.size_drew, World.cell?_drew] at hcW
                 go_simp; first | done | rfl)
              try simp only [Act.put, List.setIfInBounds_toArray, List.set_cons_zero, List.set_cons_succ]
              -- 27 Op.binOp BinOp.leq 9 (Operand.tmp 33) (Operand.tmp 39) 9
              refine wpMono_take' 27 (v := ?_) rfl (by kernel_rfl) (by kernel_rfl) (by kernel_rfl) (fun _ _ _ h => h) (by rfl) ?_ ?_
              rotate_left
              · (intro W hSw; have hcW := hSw.cells; try simp only [World.size_drew, World.cell?_drew] at hcW
                 go_simp; first | done | rfl)
              try simp only [Act.put, List.setIfInBounds_toArray, List.set_cons_zero, List.set_cons_succ]
              -- 28 Op.pick (Operand.tmp 28) (Operand.tmp 40) (Operand.const (Value.bool false))
              refine wpMono_take' 28 (v := ?_) rfl (by kernel_rfl) (by kernel_rfl) (by kernel_rfl) (fun _ _ _ h => h) (by rfl) ?_ ?_
              rotate_left
              · (intro W hSw; have hcW := hSw.cells; try simp only [World.size_drew, World.cell?_drew] at hcW
                 go_simp; first | done | rfl)
              try simp only [Act.put, List.setIfInBounds_toArray, List.set_cons_zero, List.set_cons_succ]
              -- 29 Op.pick (Operand.tmp 25) (Operand.const (Value.bool true)) (Operand.tmp 41)
              refine wpMono_take' 29 (v := ?_) rfl (by kernel_rfl) (by kernel_rfl) (by kernel_rfl) (fun _ _ _ h => h) (by rfl) ?_ ?_
              rotate_left
              · (intro W hSw; have hcW := hSw.cells; try simp only [World.size_drew, World.cell?_drew] at hcW
                 go_simp; first | done | rfl)
              try simp only [Act.put, List.setIfInBounds_toArray, List.set_cons_zero, List.set_cons_succ]
              refine wpMono_done (by kernel_rfl) ?_ _
              go_wp2
              go_ret
              exact HH.out
          · subst h0
            simp only [Nat.zero_mul, Nat.add_zero] at hx0 hx1
            have hfin := Hgrow.out (fun p h => absurd h (by omega)) Hrt.out
            have Hfin := Lib.hid hfin
            clear hfin
            go_wp2_with fail
            refine wp_region_mono nobody (by kernel_rfl) ?_
            -- 0 Op.move (Operand.tmp 0)
            refine wpMono_take' 0 (v := ?_) rfl (by kernel_rfl) (by kernel_rfl) (by kernel_rfl) (fun _ _ _ h => h) (by rfl) ?_ ?_
            rotate_left
            · (intro W hSw; have hcW := hSw.cells; try simp only [World.size_drew, World.cell?_drew] at hcW
               go_simp; first | done | rfl)
            try simp only [Act.put, List.setIfInBounds_toArray, List.set_cons_zero, List.set_cons_succ]
            -- 1 Op.move (Operand.tmp 3)
            refine wpMono_take' 1 (v := ?_) rfl (by kernel_rfl) (by kernel_rfl) (by kernel_rfl) (fun _ _ _ h => h) (by rfl) ?_ ?_
            rotate_left
            · (intro W hSw; have hcW := hSw.cells; try simp only [World.size_drew, World.cell?_drew] at hcW
               go_simp; first | done | rfl)
            try simp only [Act.put, List.setIfInBounds_toArray, List.set_cons_zero, List.set_cons_succ]
            -- 2 Op.indexAddr 35 (Operand.tmp 13) (Operand.tmp 14)
            refine wpMono_take' 2 (v := ?_) rfl (by kernel_rfl) (by kernel_rfl) (by kernel_rfl) (fun _ _ _ h => h) (by rfl) ?_ ?_
            rotate_left
            · (intro W hSw; have hcW := hSw.cells; try simp only [World.size_drew, World.cell?_drew] at hcW
               go_simp; first | done | rfl)
            try simp only [Act.put, List.setIfInBounds_toArray, List.set_cons_zero, List.set_cons_succ]
            -- 3 Op.fieldAddr 38 (Operand.tmp 15) 0
            refine wpMono_take' 3 (v := ?_) rfl (by kernel_rfl) (by kernel_rfl) (by kernel_rfl) (fun _ _ _ h => h) (by rfl) ?_ ?_
            rotate_left
            · (intro W hSw; have hcW := hSw.cells; try simp only [World.size_drew, World.cell?_drew] at hcW
               go_simp; first | done | rfl)
            try simp only [Act.put, List.setIfInBounds_toArray, List.set_cons_zero, List.set_cons_succ]
            -- 4 Op.load 9 (Operand.tmp 16)
            refine wpMono_take' 4 (v := ?_) rfl (by kernel_rfl) (by kernel_rfl) (by kernel_rfl) (fun _ _ _ h => h) (by rfl) ?_ ?_
            rotate_left
            · (intro W hSw; have hcW := hSw.cells; try simp only [World.size_drew, World.cell?_drew] at hcW
               go_simp; first | done | rfl)
            try simp only [Act.put, List.setIfInBounds_toArray, List.set_cons_zero, List.set_cons_succ]
            -- 5 Op.move (Operand.tmp 0)
            refine wpMono_take' 5 (v := ?_) rfl (by kernel_rfl) (by kernel_rfl) (by kernel_rfl) (fun _ _ _ h => h) (by rfl) ?_ ?_
            rotate_left
            · (intro W hSw; have hcW := hSw.cells; try simp only [World.size_drew, World.cell?_drew] at hcW
               go_simp; first | done | rfl)
            try simp only [Act.put, List.setIfInBounds_toArray, List.set_cons_zero, List.set_cons_succ]
            -- 6 Op.move (Operand.tmp 3)
            refine wpMono_take' 6 (v := ?_) rfl (by kernel_rfl) (by kernel_rfl) (by kernel_rfl) (fun _ _ _ h => h) (by rfl) ?_ ?_
            rotate_left
            · (intro W hSw; have hcW := hSw.cells; try simp only [World.size_drew, World.cell?_drew] at hcW
               go_simp; first | done | rfl)
            try simp only [Act.put, List.setIfInBounds_toArray, List.set_cons_zero, List.set_cons_succ]
            -- 7 Op.indexAddr 35 (Operand.tmp 18) (Operand.tmp 19)
            refine wpMono_take' 7 (v := ?_) rfl (by kernel_rfl) (by kernel_rfl) (by kernel_rfl) (fun _ _ _ h => h) (by rfl) ?_ ?_
            rotate_left
            · (intro W hSw; have hcW := hSw.cells; try simp only [World.size_drew, World.cell?_drew] at hcW
               go_simp; first | done | rfl)
            try simp only [Act.put, List.setIfInBounds_toArray, List.set_cons_zero, List.set_cons_succ]
            -- 8 Op.fieldAddr 38 (Operand.tmp 20) 1
            refine wpMono_take' 8 (v := ?_) rfl (by kernel_rfl) (by kernel_rfl) (by kernel_rfl) (fun _ _ _ h => h) (by rfl) ?_ ?_
            rotate_left
            · (intro W hSw; have hcW := hSw.cells; try simp only [World.size_drew, World.cell?_drew] at hcW
               go_simp; first | done | rfl)
            try simp only [Act.put, List.setIfInBounds_toArray, List.set_cons_zero, List.set_cons_succ]
            -- 9 Op.load 3 (Operand.tmp 21)
            refine wpMono_take' 9 (v := ?_) rfl (by kernel_rfl) (by kernel_rfl) (by kernel_rfl) (fun _ _ _ h => h) (by rfl) ?_ ?_
            rotate_left
            · (intro W hSw; have hcW := hSw.cells; try simp only [World.size_drew, World.cell?_drew] at hcW
               go_simp; first | done | rfl)
            try simp only [Act.put, List.setIfInBounds_toArray, List.set_cons_zero, List.set_cons_succ]
            -- EFFECT 10 Op.call { callee := Callee.value (Operand.func 30), args := #[Operand.tmp 17, Operand.tmp 22], argTypes := #[9, 3] }
            refine wpMono_one' 10 (by kernel_rfl) rfl (by rfl) (fun K hK => ?_)
            go_simp
            refine (Hra.out _).mono ?_
            rintro e w2 ⟨rfl, rfl⟩
            refine hK.out _ _ ?_ ?_
            · exact .refl _ _
            clear hK K
            try simp only [Act.put, List.setIfInBounds_toArray, List.set_cons_zero, List.set_cons_succ]
            -- 11 Op.unOp UnOp.not 4 (Operand.tmp 23)
            refine wpMono_take' 11 (v := ?_) rfl (by kernel_rfl) (by kernel_rfl) (by kernel_rfl) (fun _ _ _ h => h) (by rfl) ?_ ?_
            rotate_left
            · (intro W hSw; have hcW := hSw.cells; try simp only [World.size_drew, World.cell?_drew] at hcW
               go_simp; first | done | rfl)
            try simp only [Act.put, List.setIfInBounds_toArray, List.set_cons_zero, List.set_cons_succ]
            -- 12 Op.move (Operand.tmp 24)
            refine wpMono_take' 12 (v := ?_) rfl (by kernel_rfl) (by kernel_rfl) (by kernel_rfl) (fun _ _ _ h => h) (by rfl) ?_ ?_
            rotate_left
            · (intro W hSw; have hcW := hSw.cells; try simp only [World.size_drew, World.cell?_drew] at hcW
               go_simp; first | done | rfl)
            try simp only [Act.put, List.setIfInBounds_toArray, List.set_cons_zero, List.set_cons_succ]
            -- 13 Op.move (Operand.tmp 3)
            refine wpMono_take' 13 (v := ?_) rfl (by kernel_rfl) (by kernel_rfl) (by kernel_rfl) (fun _ _ _ h => h) (by rfl) ?_ ?_
            rotate_left
            · (intro W hSw; have hcW := hSw.cells; try simp only [World.size_drew, World.cell?_drew] at hcW
               go_simp; first | done | rfl)
            try simp only [Act.put, List.setIfInBounds_toArray, List.set_cons_zero, List.set_cons_succ]
            -- 14 Op.binOp BinOp.gtr 3 (Operand.tmp 26) (Operand.const (Value.int IntKind.i64 0)) 3
            refine wpMono_take' 14 (v := ?_) rfl (by kernel_rfl) (by kernel_rfl) (by kernel_rfl) (fun _ _ _ h => h) (by rfl) ?_ ?_
            rotate_left
            · (intro W hSw; have hcW := hSw.cells; try simp only [World.size_drew, World.cell?_drew] at hcW
               go_simp; first | done | rfl)
            try simp only [Act.put, List.setIfInBounds_toArray, List.set_cons_zero, List.set_cons_succ]
            -- 15 Op.move (Operand.tmp 27)
            refine wpMono_take' 15 (v := ?_) rfl (by kernel_rfl) (by kernel_rfl) (by kernel_rfl) (fun _ _ _ h => h) (by rfl) ?_ ?_
            rotate_left
            · (intro W hSw; have hcW := hSw.cells; try simp only [World.size_drew, World.cell?_drew] at hcW
               go_simp; first | done | rfl)
            try simp only [Act.put, List.setIfInBounds_toArray, List.set_cons_zero, List.set_cons_succ]
            -- 16 Op.move (Operand.tmp 0)
            refine wpMono_skip' 16 rfl (by kernel_rfl) (by kernel_rfl) (by kernel_rfl) (fun _ _ _ h => h) (by rfl) ?_
            try simp only [Act.put, List.setIfInBounds_toArray, List.set_cons_zero, List.set_cons_succ]
            -- 17 Op.move (Operand.tmp 3)
            refine wpMono_skip' 17 rfl (by kernel_rfl) (by kernel_rfl) (by kernel_rfl) (fun _ _ _ h => h) (by rfl) ?_
            try simp only [Act.put, List.setIfInBounds_toArray, List.set_cons_zero, List.set_cons_succ]
            -- 18 Op.indexAddr 35 (Operand.tmp 29) (Operand.tmp 30)
            refine wpMono_skip' 18 rfl (by kernel_rfl) (by kernel_rfl) (by kernel_rfl) (fun _ _ _ h => h) (by rfl) ?_
            try simp only [Act.put, List.setIfInBounds_toArray, List.set_cons_zero, List.set_cons_succ]
            -- 19 Op.fieldAddr 38 (Operand.tmp 31) 0
            refine wpMono_skip' 19 rfl (by kernel_rfl) (by kernel_rfl) (by kernel_rfl) (fun _ _ _ h => h) (by rfl) ?_
            try simp only [Act.put, List.setIfInBounds_toArray, List.set_cons_zero, List.set_cons_succ]
            -- 20 Op.load 9 (Operand.tmp 32)
            refine wpMono_skip' 20 rfl (by kernel_rfl) (by kernel_rfl) (by kernel_rfl) (fun _ _ _ h => h) (by rfl) ?_
            try simp only [Act.put, List.setIfInBounds_toArray, List.set_cons_zero, List.set_cons_succ]
            -- 21 Op.move (Operand.tmp 0)
            refine wpMono_skip' 21 rfl (by kernel_rfl) (by kernel_rfl) (by kernel_rfl) (fun _ _ _ h => h) (by rfl) ?_
            try simp only [Act.put, List.setIfInBounds_toArray, List.set_cons_zero, List.set_cons_succ]
            -- 22 Op.move (Operand.tmp 3)
            refine wpMono_skip' 22 rfl (by kernel_rfl) (by kernel_rfl) (by kernel_rfl) (fun _ _ _ h => h) (by rfl) ?_
            try simp only [Act.put, List.setIfInBounds_toArray, List.set_cons_zero, List.set_cons_succ]
            -- 23 Op.binOp BinOp.sub 3 (Operand.tmp 35) (Operand.const (Value.int IntKind.i64 1)) 3
            refine wpMono_skip' 23 rfl (by kernel_rfl) (by kernel_rfl) (by kernel_rfl) (fun _ _ _ h => h) (by rfl) ?_
            try simp only [Act.put, List.setIfInBounds_toArray, List.set_cons_zero, List.set_cons_succ]
            -- 24 Op.indexAddr 35 (Operand.tmp 34) (Operand.tmp 36)
            refine wpMono_skip' 24 rfl (by kernel_rfl) (by kernel_rfl) (by kernel_rfl) (fun _ _ _ h => h) (by rfl) ?_
            try simp only [Act.put, List.setIfInBounds_toArray, List.set_cons_zero, List.set_cons_succ]
            -- 25 Op.fieldAddr 38 (Operand.tmp 37) 0
            refine wpMono_skip' 25 rfl (by kernel_rfl) (by kernel_rfl) (by kernel_rfl) (fun _ _ _ h => h) (by rfl) ?_
            try simp only [Act.put, List.setIfInBounds_toArray, List.set_cons_zero, List.set_cons_succ]
            -- 26 Op.load 9 (Operand.tmp 38)
            refine wpMono_skip' 26 rfl (by kernel_rfl) (by kernel_rfl) (by kernel_rfl) (fun _ _ _ h => h) (by rfl) ?_
            try simp only [Act.put, List.setIfInBounds_toArray, List.set_cons_zero, List.set_cons_succ]
            -- 27 Op.binOp BinOp.leq 9 (Operand.tmp 33) (Operand.tmp 39) 9
            refine wpMono_skip' 27 rfl (by kernel_rfl) (by kernel_rfl) (by kernel_rfl) (fun _ _ _ h => h) (by rfl) ?_
            try simp only [Act.put, List.setIfInBounds_toArray, List.set_cons_zero, List.set_cons_succ]
            -- 28 Op.pick (Operand.tmp 28) (Operand.tmp 40) (Operand.const (Value.bool false))
            refine wpMono_take' 28 (v := ?_) rfl (by kernel_rfl) (by kernel_rfl) (by kernel_rfl) (fun _ _ _ h => h) (by rfl) ?_ ?_
            rotate_left
            · (intro W hSw; have hcW := hSw.cells; try simp only [World.size_drew, World.cell?_drew] at hcW
               go_simp; first | done | rfl)
            try simp only [Act.put, List.setIfInBounds_toArray, List.set_cons_zero, List.set_cons_succ]
            -- 29 Op.pick (Operand.tmp 25) (Operand.const (Value.bool true)) (Operand.tmp 41)
            refine wpMono_take' 29 (v := ?_) rfl (by kernel_rfl) (by kernel_rfl) (by kernel_rfl) (fun _ _ _ h => h) (by rfl) ?_ ?_
            rotate_left
            · (intro W hSw; have hcW := hSw.cells; try simp only [World.size_drew, World.cell?_drew] at hcW
               go_simp; first | done | rfl)
            try simp only [Act.put, List.setIfInBounds_toArray, List.set_cons_zero, List.set_cons_succ]
            refine wpMono_done (by kernel_rfl) ?_ _
            go_wp2
            go_roundw
            case rel => exact ⟨0 + 1, by omega, by go_num, Hfin.out, Hbw.out.drew⟩
            case measure => simp [intOf]; omega
      · obtain rfl : k = len := by omega
        rw [List.take_of_length_le (by rw [H.out.1]; exact Nat.le_refl _)] at hG
        have hh : RightR L w (.returned (.bool true)) wr := .inl ⟨hG, rfl, hbw⟩
        have HH := Lib.hid hh
        clear hh
        clear hG hbw
        go_wp2
        go_ret
        exact HH.out
  · have hng : ¬ GoodL L := fun hL => by have := hL.2.1; rw [H.out.1] at this; omega
    have hh : RightR L w (.returned (.bool false)) w := .inr ⟨hng, rfl, .refl _ _⟩
    have HH := Lib.hid hh
    clear hh
    clear hng
    have hd : decide (64 < (len : Int)) = true := by simp; omega
    go_enter Try.func17, Try.ntmps17
    go_wp2
    go_ret
    exact HH.out
end Go.Proofs.Ytojmnkcncjconaa.reft
