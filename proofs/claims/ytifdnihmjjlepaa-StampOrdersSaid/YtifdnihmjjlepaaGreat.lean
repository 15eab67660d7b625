/- The greatest of some stamps: the walks of slices.MaxFunc, Greatest and the document's one; the plain law. -/
import Derived.Test.YtifdnihmjjlepaaStamps
import Derived.Test.YtifdnihmjjlepaaCmp
namespace Go.Proofs.Ytifdnihmjjlepaa.great
open Go.RowKit Go.Proofs.Ytifdnihmjjlepaa.base Go.Proofs.Ytifdnihmjjlepaa.stamps Go.Proofs.Ytifdnihmjjlepaa.cmp

def stv (s : St) : Value := .agg #[.int .i64 s.t, .int .i64 s.r]
def up (m x : St) : St := if 0 < cmpT x.t x.r m.t m.r then x else m
def maxS : List St → St
  | [] => ⟨0, 0⟩
  | a :: l => l.foldl up a
def lt (a b : St) : Bool := lessS a.t a.r b.t b.r
theorem cmpT_pos (a b : St) : 0 < cmpT a.t a.r b.t b.r ↔ lt b a = true := by
  unfold cmpT or2 cmpI lt lessS
  rcases (by omega : a.t < b.t ∨ b.t < a.t ∨ a.t = b.t) with h | h | h
  · have h1 : ¬ b.t = a.t := by omega
    simp [h, h1]; omega
  · have h1 : ¬ b.t = a.t := by omega
    have h2 : ¬ a.t < b.t := by omega
    simp [h, h1, h2]
  · rw [h]
    rcases (by omega : a.r < b.r ∨ b.r < a.r ∨ a.r = b.r) with h | h | h
    · simp [h]; omega
    · have h2 : ¬ a.r < b.r := by omega
      simp [h, h2]
    · simp [h]
theorem lt_irrefl (a : St) : lt a a = false := by simp [lt, lessS]
theorem lt_iff (a b : St) : lt a b = true ↔ a.t < b.t ∨ (a.t = b.t ∧ a.r < b.r) := by
  unfold lt lessS
  by_cases h : a.t = b.t
  · simp [h]
  · simp [h]
theorem lt_false (a b : St) : lt a b = false ↔ b.t < a.t ∨ (a.t = b.t ∧ b.r ≤ a.r) := by
  rw [Bool.eq_false_iff, Ne, lt_iff]; omega
theorem up_spec (m x : St) : lt (up m x) x = false ∧ lt (up m x) m = false ∧ (up m x = m ∨ up m x = x) := by
  unfold up
  by_cases h : 0 < cmpT x.t x.r m.t m.r
  · rw [if_pos h]
    rw [cmpT_pos, lt_iff] at h
    exact ⟨lt_irrefl _, by rw [lt_false]; omega, .inr rfl⟩
  · rw [if_neg h]
    rw [cmpT_pos, lt_iff] at h
    exact ⟨by rw [lt_false]; omega, lt_irrefl _, .inl rfl⟩
theorem fold_spec : ∀ (l : List St) (a : St), l.foldl up a ∈ a :: l ∧ ∀ x ∈ a :: l, lt (l.foldl up a) x = false
  | [], a => by simp [lt_irrefl]
  | b :: l, a => by
    obtain ⟨h1, h2⟩ := fold_spec l (up a b)
    obtain ⟨u1, u2, u3⟩ := up_spec a b
    simp only [List.foldl_cons]
    have h3 := h2 (up a b) (by simp)
    refine ⟨?_, fun x hx => ?_⟩
    · rcases List.mem_cons.1 h1 with h | h
      · rw [h]; rcases u3 with u | u <;> simp [u]
      · simp [h]
    · rw [lt_false] at u1 u2 h3 ⊢
      rcases List.mem_cons.1 hx with rfl | hx
      · omega
      · rcases List.mem_cons.1 hx with rfl | hx
        · omega
        · have := h2 x (by simp [hx]); rw [lt_false] at this; omega
theorem maxS_spec (l : List St) (h : 0 < l.length) : maxS l ∈ l ∧ ∀ x ∈ l, lt (maxS l) x = false := by
  cases l with
  | nil => simp at h
  | cons a l => exact fold_spec l a
theorem maxS_only (l : List St) (g : St) (hg : g ∈ l) (h : ∀ x ∈ l, lt g x = false) : g = maxS l := by
  obtain ⟨h1, h2⟩ := maxS_spec l (List.length_pos_of_mem hg)
  have a := h _ h1
  have b := h2 _ hg
  rw [lt_false] at a b
  obtain ⟨gt, gr⟩ := g
  generalize maxS l = m at *
  obtain ⟨mt, mr⟩ := m
  simp at a b ⊢
  omega
theorem maxS_take (l : List St) (k : Nat) (x : St) (h : l[k]? = some x) (hk : 0 < k) : maxS (l.take (k + 1)) = up (maxS (l.take k)) x := by
  obtain ⟨hk', rfl⟩ := List.getElem?_eq_some_iff.1 h
  cases l with
  | nil => simp at hk'
  | cons a l =>
    obtain ⟨j, rfl⟩ : ∃ j, k = j + 1 := ⟨k - 1, by omega⟩
    simp at hk'
    simp only [List.take_succ_cons, maxS, List.getElem_cons_succ]
    rw [List.take_succ_eq_append_getElem hk', List.foldl_append]
    rfl

set_option maxHeartbeats 1600000 in
theorem maxFunc_any (A : Option Addr) (len cap : Nat) (l : List St) (w : World) (h : Sts w w.heap.size A len cap l) (h0 : 0 < len) (hl : len ≤ 1000000) :
    Calls Try.prog 22 #[.slice A len cap, .func (.func 19) #[] #[]] w fun e w' => e = .returned (stv (maxS l)) ∧ Below w.heap.size w w' := by
  obtain ⟨b, off, rfl, hb⟩ := h.at_some h0
  obtain ⟨x0, hx0⟩ := h.get h0
  obtain ⟨hc0, hc1⟩ := h.cell h0 hx0
  have hlc := h.2.1
  have hm1 : maxS (l.take 1) = x0 := by
    cases l with
    | nil => simp at hx0
    | cons a l => simp at hx0; subst hx0; rfl
  have hd : decide ((len : Int) < 1) = false := by simp; omega
  obtain ⟨x0t, x0r⟩ := x0
  dsimp only at hc0 hc1
  simp at hc0 hc1
  have H := Lib.hid h
  have Hm1 := Lib.hid hm1
  clear h hm1
  clear hx0
  go_enter Try.func22, Try.ntmps22
  go_wp2
  go_loopw [6] (fun i wr => ∃ k : Nat, 1 ≤ k ∧ k ≤ len ∧ i = .int .i64 k ∧ Blk wr (w.heap.size + 1) 31 #[.int .i64 (maxS (l.take k)).t, .int .i64 (maxS (l.take k)).r] ∧ Blk wr w.heap.size 31 #[.int .i64 0, .int .i64 0] ∧ Below w.heap.size w wr) (fun i _ => len - (intOf i).toNat)
  case atStart =>
    refine ⟨1, by omega, by omega, rfl, ?_, (Blk.new w _ _).alloc _, below_alloc (below_new w _) _⟩
    rw [Hm1.out]
    exact Blk.newAt _ _ _ (by simp)
  case round =>
    obtain ⟨k, hk1, hk, rfl, hm, hr, hbw⟩ := hrel
    by_cases hlt : k < len
    · obtain ⟨x, hx⟩ := H.out.get hlt
      obtain ⟨hx0, hx1⟩ := (H.out.below hbw).cell hlt hx
      have hst := maxS_take l k x hx (by omega)
      have hm0 : wr.cell? ⟨w.heap.size + 1, 0, none⟩ = _ := hm.cell 0
      have hm1 : wr.cell? ⟨w.heap.size + 1, 1, none⟩ = _ := hm.cell 1
      have hml := hm.lt
      have hbl := Nat.lt_of_lt_of_le hb hbw.size
      generalize maxS (l.take k) = m at hm hst hm0 hm1
      obtain ⟨mt, mr⟩ := m
      obtain ⟨xt, xr⟩ := x
      simp at hm0 hm1
      dsimp only at hx0 hx1 hm
      have Hst := Lib.hid hst
      have Hm := Lib.hid hm
      have Hr := Lib.hid hr
      have Hbw := Lib.hid hbw
      clear hst hm hr hbw
      clear hx hc0 hc1
      go_wp2_with fail
      refine wp_region_mono nobody (by kernel_rfl) ?_
      -- 0 Op.move (Operand.tmp 1)
      refine wpMono_take' 0 (v := ?_) rfl (by kernel_rfl) (by kernel_rfl) (by kernel_rfl) (fun _ _ _ h => h) (by rfl) ?_ ?_
      rotate_left
      · (intro W hSw; have hcW := hSw.cells; try simp only [World.size_drew, World.cell?_drew] at hcW
         go_simp; first | done | rfl)
      try simp only [Act.put, List.setIfInBounds_toArray, List.set_cons_zero, List.set_cons_succ]
      -- 1 Op.move (Operand.tmp 0)
      refine wpMono_take' 1 (v := ?_) rfl (by kernel_rfl) (by kernel_rfl) (by kernel_rfl) (fun _ _ _ h => h) (by rfl) ?_ ?_
      rotate_left
      · (intro W hSw; have hcW := hSw.cells; try simp only [World.size_drew, World.cell?_drew] at hcW
         go_simp; first | done | rfl)
      try simp only [Act.put, List.setIfInBounds_toArray, List.set_cons_zero, List.set_cons_succ]
      -- 2 Op.move (Operand.tmp 6)
      refine wpMono_take' 2 (v := ?_) rfl (by kernel_rfl) (by kernel_rfl) (by kernel_rfl) (fun _ _ _ h => h) (by rfl) ?_ ?_
      rotate_left
      · (intro W hSw; have hcW := hSw.cells; try simp only [World.size_drew, World.cell?_drew] at hcW
         go_simp; first | done | rfl)
      try simp only [Act.put, List.setIfInBounds_toArray, List.set_cons_zero, List.set_cons_succ]
      -- 3 Op.indexAddr 22 (Operand.tmp 21) (Operand.tmp 22)
      refine wpMono_take' 3 (v := ?_) rfl (by kernel_rfl) (by kernel_rfl) (by kernel_rfl) (fun _ _ _ h => h) (by rfl) ?_ ?_
      rotate_left
      · (intro W hSw; have hcW := hSw.cells; try simp only [World.size_drew, World.cell?_drew] at hcW
         go_simp; first | done | rfl)
      try simp only [Act.put, List.setIfInBounds_toArray, List.set_cons_zero, List.set_cons_succ]
      -- 4 Op.load 31 (Operand.tmp 23)
      refine wpMono_take' 4 (v := ?_) rfl (by kernel_rfl) (by kernel_rfl) (by kernel_rfl) (fun _ _ _ h => h) (by rfl) ?_ ?_
      rotate_left
      · (intro W hSw; have hcW := hSw.cells; try simp only [World.size_drew, World.cell?_drew] at hcW
         go_simp; first | done | rfl)
      try simp only [Act.put, List.setIfInBounds_toArray, List.set_cons_zero, List.set_cons_succ]
      -- 5 Op.load 31 (Operand.tmp 5)
      refine wpMono_take' 5 (v := ?_) rfl (by kernel_rfl) (by kernel_rfl) (by kernel_rfl) (fun _ _ _ h => h) (by rfl) ?_ ?_
      rotate_left
      · (intro W hSw; have hcW := hSw.cells; try simp only [World.size_drew, World.cell?_drew] at hcW
         go_simp; first | done | rfl)
      try simp only [Act.put, List.setIfInBounds_toArray, List.set_cons_zero, List.set_cons_succ]
      -- EFFECT 6 Op.call { callee := Callee.value (Operand.tmp 20), args := #[Operand.tmp 24, Operand.tmp 25], argTypes := #[31, 31] }
      refine wpMono_one' 6 (by kernel_rfl) rfl (by rfl) (fun K hK => ?_)
      go_simp
      refine (compare_stamp _ _ _ _ _).mono ?_
      rintro e w1 ⟨rfl, hb1⟩
      refine hK.out _ _ ?_ ?_
      · exact .of_below hb1
      clear hK K
      try simp only [Act.put, List.setIfInBounds_toArray, List.set_cons_zero, List.set_cons_succ]
      -- 7 Op.binOp BinOp.gtr 3 (Operand.tmp 26) (Operand.const (Value.int IntKind.i64 0)) 3
      refine wpMono_take' 7 (v := ?_) rfl (by kernel_rfl) (by kernel_rfl) (by kernel_rfl) (fun _ _ _ h => h) (by rfl) ?_ ?_
      rotate_left
      · (intro W hSw; have hcW := hSw.cells; try simp only [World.size_drew, World.cell?_drew] at hcW
         go_simp; first | done | rfl)
      try simp only [Act.put, List.setIfInBounds_toArray, List.set_cons_zero, List.set_cons_succ]
      refine wpMono_done (by kernel_rfl) ?_ _
      have hb2 := below_ofDrew hb1
      have hy0 := (hb2.cell (p := ⟨b, off + k * 2, none⟩) hbl).trans hx0
      have hy1 := (hb2.cell (p := ⟨b, off + k * 2 + 1, none⟩) hbl).trans hx1
      have hbw1 := below_step Hbw.out hb2
      have hm2 := Hm.out.below hb2 Hm.out.lt
      have hr2 := Hr.out.below hb2 Hr.out.lt
      have hf0 := hm2.frozen 0
      have hf1 := hm2.frozen 1
      have hm3 := hm2.cell 0
      have hm4 := hm2.cell 1
      simp at hm3 hm4
      obtain ⟨q, kp⟩ := two w1 (w.heap.size + 1) 31 _ _ (.int .i64 xt) (.int .i64 xr) hm2
      have hr3 := hr2.keeps kp (by omega)
      have hbw2 := below_kept hbw1 kp (fun i hi => by omega)
      have Q := Lib.hid q
      have Hr3 := Lib.hid hr3
      have Hbw1 := Lib.hid hbw1
      have Hbw2 := Lib.hid hbw2
      have Hm2 := Lib.hid hm2
      have Hr2 := Lib.hid hr2
      clear q hr3 hbw1 hbw2 hm2 hr2
      clear hb1 hb2 hm0 hm1 hx0 hx1 kp
      by_cases hup : 0 < cmpT xt xr mt mr
      · have hup' := decide_eq_true hup
        have hst2 : maxS (l.take (k + 1)) = ⟨xt, xr⟩ := by rw [Hst.out]; exact if_pos hup
        have Hst2 := Lib.hid hst2
        clear hst2
        go_wp2
        go_roundw
        case rel => exact ⟨k + 1, by omega, by omega, by go_num, by rw [Hst2.out]; exact Q.out, Hr3.out, Hbw2.out⟩
        case measure => simp [intOf]; omega
      · have hup' := decide_eq_false hup
        have hst2 : maxS (l.take (k + 1)) = ⟨mt, mr⟩ := by rw [Hst.out]; exact if_neg hup
        have Hst2 := Lib.hid hst2
        clear hst2
        go_wp2
        go_roundw
        case rel => exact ⟨k + 1, by omega, by omega, by go_num, by rw [Hst2.out]; exact Hm2.out, Hr2.out, Hbw1.out⟩
        case measure => simp [intOf]; omega
    · obtain rfl : k = len := by omega
      have ht : l.take k = l := List.take_of_length_le (by rw [H.out.1]; exact Nat.le_refl _)
      rw [ht] at hm
      generalize hml2 : maxS l = m at hm
      obtain ⟨mt, mr⟩ := m
      have Hml2 := Lib.hid hml2
      clear hml2
      dsimp only at hm
      have hm0 : wr.cell? ⟨w.heap.size + 1, 0, none⟩ = _ := hm.cell 0
      have hm1 : wr.cell? ⟨w.heap.size + 1, 1, none⟩ = _ := hm.cell 1
      have hf0 := hr.frozen 0
      have hf1 := hr.frozen 1
      have hrl := hr.lt
      have hz0 := hr.cell 0
      have hz1 := hr.cell 1
      simp at hm0 hm1 hz0 hz1
      obtain ⟨q, kp⟩ := two wr w.heap.size 31 _ _ (.int .i64 mt) (.int .i64 mr) hr
      have hbw2 := below_kept hbw kp (fun i hi => by omega)
      have Q := Lib.hid q
      have Hbw2 := Lib.hid hbw2
      clear q hbw2
      clear ht hm hr hbw kp hc0 hc1
      go_wp2
      have q0 := Q.out.cell 0
      have q1 := Q.out.cell 1
      simp at q0 q1
      exact bodyPost_ret (v := .agg #[.int .i64 mt, .int .i64 mr]) (by simp [results, Try.results22, go_sem, q0, q1]) rfl ⟨by rw [Hml2.out]; rfl, Hbw2.out⟩

def greatE (l : List St) : Value := if l.length = 0 then .tuple #[.agg #[.int .i64 0, .int .i64 0], .bool false] else .tuple #[stv (maxS l), .bool true]
set_option maxHeartbeats 1600000 in
theorem greatest_any (A : Option Addr) (len cap : Nat) (l : List St) (w : World) (h : Sts w w.heap.size A len cap l) (hl : len ≤ 1000000) :
    Calls Try.prog 16 #[.slice A len cap] w fun e w' => e = .returned (greatE l) ∧ Below w.heap.size w w' := by
  by_cases h0 : len = 0
  · have hg : greatE l = .tuple #[.agg #[.int .i64 0, .int .i64 0], .bool false] := if_pos (by rw [h.1]; exact h0)
    subst h0
    have Hg := Lib.hid hg
    clear hg
    clear h
    go_enter Try.func16, Try.ntmps16
    go_wp2
    exact bodyPost_ret (v := .tuple #[.agg #[.int .i64 0, .int .i64 0], .bool false]) (by simp [results, Try.results16, go_sem]) rfl ⟨by rw [Hg.out], below_new _ _⟩
  · have hg : greatE l = .tuple #[stv (maxS l), .bool true] := if_neg (by rw [h.1]; exact h0)
    have hn : ((len : Int) == 0) = false := by simpa using h0
    have hs : Sts (w.alloc (.cells #[.int .i64 0, .int .i64 0] 31)) (w.alloc (.cells #[.int .i64 0, .int .i64 0] 31)).heap.size A len cap l := (h.below (below_new w _)).more (by simp)
    have H := Lib.hid hs
    have Hg := Lib.hid hg
    clear hg
    clear h hs
    have hc := maxFunc_any A len cap l _ H.out (by omega) hl
    rw [Hg.out]
    clear Hg
    generalize maxS l = m at *
    obtain ⟨mt, mr⟩ := m
    unfold stv at hc ⊢
    dsimp only at hc ⊢
    have Hc := Lib.hid hc
    clear hc
    go_enter Try.func16, Try.ntmps16
    go_wp2_with fail
    refine (Hc.out).mono ?_
    rintro e w1 ⟨rfl, hb1⟩
    obtain ⟨hb, hf⟩ := bcell hb1
    have hz := hb1.size
    simp at hz
    have hz' : w.heap.size < w1.heap.size := by omega
    obtain ⟨q, k⟩ := two w1 w.heap.size 31 _ _ (.int .i64 mt) (.int .i64 mr) ((Blk.new w 31 #[.int .i64 0, .int .i64 0]).below hb1 (by simp))
    have hbw := below_kept (below_step (below_new w _) hb1) k (fun i hi => by omega)
    have hq0 := q.cell 0
    have hq1 := q.cell 1
    simp at hq0 hq1
    have Hbw := Lib.hid hbw
    have Hq0 := Lib.hid hq0
    have Hq1 := Lib.hid hq1
    clear hbw hq0 hq1
    clear hb1 q k hz
    go_wp2
    exact bodyPost_ret (v := .tuple #[.agg #[.int .i64 mt, .int .i64 mr], .bool true]) (by simp [results, Try.results16, go_sem, Hq0.out, Hq1.out]) rfl ⟨rfl, Hbw.out⟩
set_option maxHeartbeats 1600000 in
theorem ref_any (A : Option Addr) (len cap : Nat) (l : List St) (w : World) (h : Sts w w.heap.size A len cap l) (hl : len ≤ 1000000) :
    Calls Try.prog 17 #[.slice A len cap] w fun e w' => e = .returned (greatE l) ∧ Below w.heap.size w w' := by
  have hlc := h.2.1
  have hcm := h.2.2.1
  unfold maxLen at hcm
  have H := Lib.hid h
  clear h
  go_enter Try.func17, Try.ntmps17
  go_wp2
  go_loopw [4, 5, 6] (fun i _ _ wr => ∃ n : Nat, n ≤ len ∧ i = .int .i64 n ∧ (∀ j, j < n → ∃ x ∈ l, ∃ y, l[j]? = some y ∧ lt y x = true) ∧ Blk wr w.heap.size 31 #[.int .i64 0, .int .i64 0] ∧ Below w.heap.size w wr) (fun i _ _ _ => len - (intOf i).toNat)
  case atStart => exact ⟨0, by omega, rfl, by omega, Blk.new _ _ _, below_new _ _⟩
  case round =>
    obtain ⟨n, hn, rfl, hno, hr, hbw⟩ := hrel
    have Hno := Lib.hid hno
    have Hr := Lib.hid hr
    have Hbw := Lib.hid hbw
    clear hno hr hbw
    by_cases hlt : n < len
    · obtain ⟨b, off, rfl, hb⟩ := H.out.at_some (by omega)
      obtain ⟨x, hx⟩ := H.out.get hlt
      obtain ⟨xt, xr⟩ := x
      have Hx := Lib.hid hx
      clear hx
      go_wp2
      go_loopw [5, 6] (fun is k wq => ∃ (m : Nat) (bo : Bool), m ≤ len ∧ k = .int .i64 m ∧ is = .bool bo ∧ bo = (l.take m).all (fun y => !lt ⟨xt, xr⟩ y) ∧ Below wr.heap.size wr wq) (fun _ k _ => len - (intOf k).toNat)
      case atStart => exact ⟨0, true, by omega, rfl, rfl, rfl, Below.refl _ _⟩
      case round =>
        obtain ⟨m, bo, hm, rfl, rfl, hbo, hbq⟩ := hrel
        have Hbo := Lib.hid hbo; clear hbo
        have Hbq := Lib.hid hbq
        have HS := (H.out.below Hbw.out).below (B := w.heap.size) (hbq.mono Hbw.out.size)
        by_cases hml : m < len
        · obtain ⟨y, hy⟩ := H.out.get hml
          obtain ⟨hx0, hx1⟩ := HS.cell hlt Hx.out
          obtain ⟨hy0, hy1⟩ := HS.cell hml hy
          obtain ⟨yt, yr⟩ := y
          dsimp only at hx0 hx1 hy0 hy1
          have htk : (l.take (m + 1)).all (fun y => !lt ⟨xt, xr⟩ y) = ((l.take m).all (fun y => !lt ⟨xt, xr⟩ y) && !lessS xt xr yt yr) := by
            obtain ⟨hkl, hve⟩ := List.getElem?_eq_some_iff.1 hy
            rw [List.take_succ_eq_append_getElem hkl, List.all_append, hve]
            simp [lt]
          rw [← Hbo.out] at htk
          have Htk := Lib.hid htk
          have hbl := Nat.lt_of_lt_of_le hb (Nat.le_trans Hbw.out.size hbq.size)
          clear hy htk hbq HS
          cases bo
          · go_wp2_with fail
            refine wp_region_mono nobody (by kernel_rfl) ?_
            -- 0 Op.move (Operand.tmp 5)
            refine wpMono_take' 0 (v := ?_) rfl (by kernel_rfl) (by kernel_rfl) (by kernel_rfl) (fun _ _ _ h => h) (by rfl) ?_ ?_
            rotate_left
            · (intro W hSw; have hcW := hSw.cells; try simp only [World.size_drew, World.cell?_drew] at hcW
               go_simp; first | done | rfl)
            try simp only [Act.put, List.setIfInBounds_toArray, List.set_cons_zero, List.set_cons_succ]
            -- 1 Op.move (Operand.tmp 19)
            refine wpMono_take' 1 (v := ?_) rfl (by kernel_rfl) (by kernel_rfl) (by kernel_rfl) (fun _ _ _ h => h) (by rfl) ?_ ?_
            rotate_left
            · (intro W hSw; have hcW := hSw.cells; try simp only [World.size_drew, World.cell?_drew] at hcW
               go_simp; first | done | rfl)
            try simp only [Act.put, List.setIfInBounds_toArray, List.set_cons_zero, List.set_cons_succ]
            -- 2 Op.move (Operand.tmp 0)
            refine wpMono_skip' 2 rfl (by kernel_rfl) (by kernel_rfl) (by kernel_rfl) (fun _ _ _ h => h) (by rfl) ?_
            try simp only [Act.put, List.setIfInBounds_toArray, List.set_cons_zero, List.set_cons_succ]
            -- 3 Op.move (Operand.tmp 4)
            refine wpMono_skip' 3 rfl (by kernel_rfl) (by kernel_rfl) (by kernel_rfl) (fun _ _ _ h => h) (by rfl) ?_
            try simp only [Act.put, List.setIfInBounds_toArray, List.set_cons_zero, List.set_cons_succ]
            -- 4 Op.indexAddr 22 (Operand.tmp 21) (Operand.tmp 22)
            refine wpMono_skip' 4 rfl (by kernel_rfl) (by kernel_rfl) (by kernel_rfl) (fun _ _ _ h => h) (by rfl) ?_
            try simp only [Act.put, List.setIfInBounds_toArray, List.set_cons_zero, List.set_cons_succ]
            -- 5 Op.load 31 (Operand.tmp 23)
            refine wpMono_skip' 5 rfl (by kernel_rfl) (by kernel_rfl) (by kernel_rfl) (fun _ _ _ h => h) (by rfl) ?_
            try simp only [Act.put, List.setIfInBounds_toArray, List.set_cons_zero, List.set_cons_succ]
            -- 6 Op.move (Operand.tmp 0)
            refine wpMono_skip' 6 rfl (by kernel_rfl) (by kernel_rfl) (by kernel_rfl) (fun _ _ _ h => h) (by rfl) ?_
            try simp only [Act.put, List.setIfInBounds_toArray, List.set_cons_zero, List.set_cons_succ]
            -- 7 Op.move (Operand.tmp 6)
            refine wpMono_skip' 7 rfl (by kernel_rfl) (by kernel_rfl) (by kernel_rfl) (fun _ _ _ h => h) (by rfl) ?_
            try simp only [Act.put, List.setIfInBounds_toArray, List.set_cons_zero, List.set_cons_succ]
            -- 8 Op.indexAddr 22 (Operand.tmp 25) (Operand.tmp 26)
            refine wpMono_skip' 8 rfl (by kernel_rfl) (by kernel_rfl) (by kernel_rfl) (fun _ _ _ h => h) (by rfl) ?_
            try simp only [Act.put, List.setIfInBounds_toArray, List.set_cons_zero, List.set_cons_succ]
            -- 9 Op.load 31 (Operand.tmp 27)
            refine wpMono_skip' 9 rfl (by kernel_rfl) (by kernel_rfl) (by kernel_rfl) (fun _ _ _ h => h) (by rfl) ?_
            try simp only [Act.put, List.setIfInBounds_toArray, List.set_cons_zero, List.set_cons_succ]
            -- 10 Op.call { callee := Callee.value (Operand.func 15), args := #[Operand.tmp 24, Operand.tmp 
            refine wpMono_skip' 10 rfl (by kernel_rfl) (by kernel_rfl) (by kernel_rfl) (fun _ _ _ h => h) (by rfl) ?_
            try simp only [Act.put, List.setIfInBounds_toArray, List.set_cons_zero, List.set_cons_succ]
            -- 11 Op.unOp UnOp.not 4 (Operand.tmp 29)
            refine wpMono_skip' 11 rfl (by kernel_rfl) (by kernel_rfl) (by kernel_rfl) (fun _ _ _ h => h) (by rfl) ?_
            try simp only [Act.put, List.setIfInBounds_toArray, List.set_cons_zero, List.set_cons_succ]
            -- 12 Op.pick (Operand.tmp 20) (Operand.tmp 30) (Operand.const (Value.bool false))
            refine wpMono_take' 12 (v := ?_) rfl (by kernel_rfl) (by kernel_rfl) (by kernel_rfl) (fun _ _ _ h => h) (by rfl) ?_ ?_
            rotate_left
            · (intro W hSw; have hcW := hSw.cells; try simp only [World.size_drew, World.cell?_drew] at hcW
               go_simp; first | done | rfl)
            try simp only [Act.put, List.setIfInBounds_toArray, List.set_cons_zero, List.set_cons_succ]
            -- 13 Op.assign (Operand.tmp 31)
            refine wpMono_take' 13 (v := ?_) rfl (by kernel_rfl) (by kernel_rfl) (by kernel_rfl) (fun _ _ _ h => h) (by rfl) ?_ ?_
            rotate_left
            · (intro W hSw; have hcW := hSw.cells; try simp only [World.size_drew, World.cell?_drew] at hcW
               go_simp; first | done | rfl)
            try simp only [Act.put, List.setIfInBounds_toArray, List.set_cons_zero, List.set_cons_succ]
            refine wpMono_done (by kernel_rfl) ?_ _
            go_wp2
            go_roundw
            case rel => exact ⟨m + 1, false, by omega, by go_num, rfl, by rw [Htk.out]; rfl, by exact Hbq.out.drew⟩
            case measure => simp [intOf]; omega
          · go_wp2_with fail
            refine wp_region_mono nobody (by kernel_rfl) ?_
            -- 0 Op.move (Operand.tmp 5)
            refine wpMono_take' 0 (v := ?_) rfl (by kernel_rfl) (by kernel_rfl) (by kernel_rfl) (fun _ _ _ h => h) (by rfl) ?_ ?_
            rotate_left
            · (intro W hSw; have hcW := hSw.cells; try simp only [World.size_drew, World.cell?_drew] at hcW
               go_simp; first | done | rfl)
            try simp only [Act.put, List.setIfInBounds_toArray, List.set_cons_zero, List.set_cons_succ]
            -- 1 Op.move (Operand.tmp 19)
            refine wpMono_take' 1 (v := ?_) rfl (by kernel_rfl) (by kernel_rfl) (by kernel_rfl) (fun _ _ _ h => h) (by rfl) ?_ ?_
            rotate_left
            · (intro W hSw; have hcW := hSw.cells; try simp only [World.size_drew, World.cell?_drew] at hcW
               go_simp; first | done | rfl)
            try simp only [Act.put, List.setIfInBounds_toArray, List.set_cons_zero, List.set_cons_succ]
            -- 2 Op.move (Operand.tmp 0)
            refine wpMono_take' 2 (v := ?_) rfl (by kernel_rfl) (by kernel_rfl) (by kernel_rfl) (fun _ _ _ h => h) (by rfl) ?_ ?_
            rotate_left
            · (intro W hSw; have hcW := hSw.cells; try simp only [World.size_drew, World.cell?_drew] at hcW
               go_simp; first | done | rfl)
            try simp only [Act.put, List.setIfInBounds_toArray, List.set_cons_zero, List.set_cons_succ]
            -- 3 Op.move (Operand.tmp 4)
            refine wpMono_take' 3 (v := ?_) rfl (by kernel_rfl) (by kernel_rfl) (by kernel_rfl) (fun _ _ _ h => h) (by rfl) ?_ ?_
            rotate_left
            · (intro W hSw; have hcW := hSw.cells; try simp only [World.size_drew, World.cell?_drew] at hcW
               go_simp; first | done | rfl)
            try simp only [Act.put, List.setIfInBounds_toArray, List.set_cons_zero, List.set_cons_succ]
            -- 4 Op.indexAddr 22 (Operand.tmp 21) (Operand.tmp 22)
            refine wpMono_take' 4 (v := ?_) rfl (by kernel_rfl) (by kernel_rfl) (by kernel_rfl) (fun _ _ _ h => h) (by rfl) ?_ ?_
            rotate_left
            · (intro W hSw; have hcW := hSw.cells; try simp only [World.size_drew, World.cell?_drew] at hcW
               go_simp; first | done | rfl)
            try simp only [Act.put, List.setIfInBounds_toArray, List.set_cons_zero, List.set_cons_succ]
            -- 5 Op.load 31 (Operand.tmp 23)
            refine wpMono_take' 5 (v := ?_) rfl (by kernel_rfl) (by kernel_rfl) (by kernel_rfl) (fun _ _ _ h => h) (by rfl) ?_ ?_
            rotate_left
            · (intro W hSw; have hcW := hSw.cells; try simp only [World.size_drew, World.cell?_drew] at hcW
               go_simp; first | done | rfl)
            try simp only [Act.put, List.setIfInBounds_toArray, List.set_cons_zero, List.set_cons_succ]
            -- 6 Op.move (Operand.tmp 0)
            refine wpMono_take' 6 (v := ?_) rfl (by kernel_rfl) (by kernel_rfl) (by kernel_rfl) (fun _ _ _ h => h) (by rfl) ?_ ?_
            rotate_left
            · (intro W hSw; have hcW := hSw.cells; try simp only [World.size_drew, World.cell?_drew] at hcW
               go_simp; first | done | rfl)
            try simp only [Act.put, List.setIfInBounds_toArray, List.set_cons_zero, List.set_cons_succ]
            -- 7 Op.move (Operand.tmp 6)
            refine wpMono_take' 7 (v := ?_) rfl (by kernel_rfl) (by kernel_rfl) (by kernel_rfl) (fun _ _ _ h => h) (by rfl) ?_ ?_
            rotate_left
            · (intro W hSw; have hcW := hSw.cells; try simp only [World.size_drew, World.cell?_drew] at hcW
               go_simp; first | done | rfl)
            try simp only [Act.put, List.setIfInBounds_toArray, List.set_cons_zero, List.set_cons_succ]
            -- 8 Op.indexAddr 22 (Operand.tmp 25) (Operand.tmp 26)
            refine wpMono_take' 8 (v := ?_) rfl (by kernel_rfl) (by kernel_rfl) (by kernel_rfl) (fun _ _ _ h => h) (by rfl) ?_ ?_
            rotate_left
            · (intro W hSw; have hcW := hSw.cells; try simp only [World.size_drew, World.cell?_drew] at hcW
               go_simp; first | done | rfl)
            try simp only [Act.put, List.setIfInBounds_toArray, List.set_cons_zero, List.set_cons_succ]
            -- 9 Op.load 31 (Operand.tmp 27)
            refine wpMono_take' 9 (v := ?_) rfl (by kernel_rfl) (by kernel_rfl) (by kernel_rfl) (fun _ _ _ h => h) (by rfl) ?_ ?_
            rotate_left
            · (intro W hSw; have hcW := hSw.cells; try simp only [World.size_drew, World.cell?_drew] at hcW
               go_simp; first | done | rfl)
            try simp only [Act.put, List.setIfInBounds_toArray, List.set_cons_zero, List.set_cons_succ]
            -- EFFECT 10 Op.call { callee := Callee.value (Operand.func 15), args := #[Operand.tmp 24, Operand.tmp 28], argTypes := #[31, 31] }
            refine wpMono_one' 10 (by kernel_rfl) rfl (by rfl) (fun K hK => ?_)
            go_simp
            refine (less_ref _ _ _ _ _).mono ?_
            rintro e w1 ⟨rfl, hb1⟩
            refine hK.out _ _ ?_ ?_
            · exact .of_below hb1
            clear hK K
            try simp only [Act.put, List.setIfInBounds_toArray, List.set_cons_zero, List.set_cons_succ]
            -- 11 Op.unOp UnOp.not 4 (Operand.tmp 29)
            refine wpMono_take' 11 (v := ?_) rfl (by kernel_rfl) (by kernel_rfl) (by kernel_rfl) (fun _ _ _ h => h) (by rfl) ?_ ?_
            rotate_left
            · (intro W hSw; have hcW := hSw.cells; try simp only [World.size_drew, World.cell?_drew] at hcW
               go_simp; first | done | rfl)
            try simp only [Act.put, List.setIfInBounds_toArray, List.set_cons_zero, List.set_cons_succ]
            -- 12 Op.pick (Operand.tmp 20) (Operand.tmp 30) (Operand.const (Value.bool false))
            refine wpMono_take' 12 (v := ?_) rfl (by kernel_rfl) (by kernel_rfl) (by kernel_rfl) (fun _ _ _ h => h) (by rfl) ?_ ?_
            rotate_left
            · (intro W hSw; have hcW := hSw.cells; try simp only [World.size_drew, World.cell?_drew] at hcW
               go_simp; first | done | rfl)
            try simp only [Act.put, List.setIfInBounds_toArray, List.set_cons_zero, List.set_cons_succ]
            -- 13 Op.assign (Operand.tmp 31)
            refine wpMono_take' 13 (v := ?_) rfl (by kernel_rfl) (by kernel_rfl) (by kernel_rfl) (fun _ _ _ h => h) (by rfl) ?_ ?_
            rotate_left
            · (intro W hSw; have hcW := hSw.cells; try simp only [World.size_drew, World.cell?_drew] at hcW
               go_simp; first | done | rfl)
            try simp only [Act.put, List.setIfInBounds_toArray, List.set_cons_zero, List.set_cons_succ]
            refine wpMono_done (by kernel_rfl) ?_ _
            have hb2 := below_step Hbq.out (below_ofDrew hb1)
            have Hb2 := Lib.hid hb2
            clear hb2
            clear hb1
            go_wp2
            go_roundw
            case rel => exact ⟨m + 1, !lessS xt xr yt yr, by omega, by go_num, rfl, by rw [Htk.out]; rfl, Hb2.out⟩
            case measure => simp [intOf]; omega
        · obtain rfl : m = len := by omega
          rw [List.take_of_length_le (by rw [H.out.1]; exact Nat.le_refl _)] at Hbo
          have hbw2 := below_step Hbw.out hbq
          have hr2 := Hr.out.below hbq Hr.out.lt
          have hq2 := hbq.size
          cases bo
          · have hno2 : ∀ j, j < n + 1 → ∃ x ∈ l, ∃ y, l[j]? = some y ∧ lt y x = true := by
              intro j hj
              rcases Nat.lt_or_ge j n with h | h
              · exact Hno.out j h
              · obtain rfl : j = n := by omega
                have := Hbo.out.symm
                simp at this
                obtain ⟨z, hz, hzz⟩ := this
                exact ⟨z, hz, ⟨xt, xr⟩, Hx.out, hzz⟩
            have Hno2 := Lib.hid hno2
            have Hbw2 := Lib.hid hbw2
            have Hr2 := Lib.hid hr2
            clear hno2 hbw2 hr2
            clear HS
            go_wp2
            go_roundw
            case rel => exact ⟨n + 1, by omega, by go_num, Hno2.out, Hr2.out, Hbw2.out⟩
            case measure => simp [intOf]; omega
          · have hgm : (⟨xt, xr⟩ : St) = maxS l := maxS_only l _ (List.mem_of_getElem? Hx.out) (fun z hz => by
              have := List.all_eq_true.1 Hbo.out.symm z hz
              simpa using this)
            have hg : greatE l = .tuple #[.agg #[.int .i64 xt, .int .i64 xr], .bool true] := by unfold greatE; rw [if_neg (by rw [H.out.1]; omega), ← hgm]; rfl
            obtain ⟨hx0, hx1⟩ := HS.cell hlt Hx.out
            dsimp only at hx0 hx1
            have hf0 := hr2.frozen 0
            have hf1 := hr2.frozen 1
            have hrl := hr2.lt
            have hz0 := hr2.cell 0
            have hz1 := hr2.cell 1
            simp at hz0 hz1
            obtain ⟨q, kp⟩ := two wr w.heap.size 31 _ _ (.int .i64 xt) (.int .i64 xr) hr2
            have hbw3 := below_kept hbw2 kp (fun i hi => by omega)
            have hq0 := q.cell 0
            have hq1 := q.cell 1
            simp at hq0 hq1
            have Hg := Lib.hid hg
            have Hbw3 := Lib.hid hbw3
            have Hq0 := Lib.hid hq0
            have Hq1 := Lib.hid hq1
            clear hg hbw3 hq0 hq1
            clear hr2 hbw2 hgm q kp HS hbq
            go_wp2
            exact bodyPost_ret (v := .tuple #[.agg #[.int .i64 xt, .int .i64 xr], .bool true]) (by simp [results, Try.results17, go_sem, Hq0.out, Hq1.out]) rfl ⟨by rw [Hg.out], Hbw3.out⟩
    · obtain rfl : n = len := by omega
      have h0 : n = 0 := by
        rcases Nat.eq_zero_or_pos n with h | h
        · exact h
        · exfalso
          obtain ⟨h1, h2⟩ := maxS_spec l (by rw [H.out.1]; exact h)
          obtain ⟨j, hj, he⟩ := List.getElem_of_mem h1
          obtain ⟨x, hx, y, hy, hyx⟩ := Hno.out j (by rw [← H.out.1]; exact hj)
          rw [List.getElem?_eq_getElem hj, he] at hy
          injection hy with hy
          subst hy
          rw [h2 x hx] at hyx
          cases hyx
      have hg : greatE l = .tuple #[.agg #[.int .i64 0, .int .i64 0], .bool false] := if_pos (by rw [H.out.1]; exact h0)
      subst h0
      have hf0 := Hr.out.frozen 0
      have hf1 := Hr.out.frozen 1
      have hrl := Hr.out.lt
      have hz0 := Hr.out.cell 0
      have hz1 := Hr.out.cell 1
      simp at hz0 hz1
      obtain ⟨q, kp⟩ := two wr w.heap.size 31 _ _ (.int .i64 0) (.int .i64 0) Hr.out
      have hbw3 := below_kept Hbw.out kp (fun i hi => by omega)
      have hq0 := q.cell 0
      have hq1 := q.cell 1
      simp at hq0 hq1
      have Hg := Lib.hid hg
      have Hbw3 := Lib.hid hbw3
      have Hq0 := Lib.hid hq0
      have Hq1 := Lib.hid hq1
      clear hg hbw3 hq0 hq1
      clear q kp
      go_wp2
      exact bodyPost_ret (v := .tuple #[.agg #[.int .i64 0, .int .i64 0], .bool false]) (by simp [results, Try.results17, go_sem, Hq0.out, Hq1.out]) rfl ⟨by rw [Hg.out], Hbw3.out⟩
end Go.Proofs.Ytifdnihmjjlepaa.great
