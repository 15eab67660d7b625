/- The walk of epoch.New; the smallest success. -/
import Derived.Test.YtojmnkcncjconaaTab
import Derived.IntWalk
namespace Go.Proofs.Ytojmnkcncjconaa.new
open Go.RowKit Go.Proofs.Ytojmnkcncjconaa.base Go.Proofs.Ytojmnkcncjconaa.list Go.Proofs.Ytojmnkcncjconaa.err Go.Proofs.Ytojmnkcncjconaa.tab

theorem ep_cells : Try.prog.cellsOf 38 = 2 := by kernel_rfl
theorem ep_info : (Try.prog.info? 38).map (fun i => (i.zero, i.size, i.bytes)) = some (some (.agg #[.string ⟨#[]⟩, .int .i64 0]), 2, 24) := by kernel_rfl
theorem ep_sees {w : World} (cs : List Value) (hl : cs.length = Try.prog.cellsOf 38) (h : Sees Try.prog w 38 cs) : ∃ x, cs = ep x := by
  rw [ep_cells] at hl
  obtain ⟨_, hf⟩ := h.struct Try.underlying38
  have e3 : Try.prog.cellsOf 3 = 1 := by kernel_rfl
  have e9 : Try.prog.cellsOf 9 = 1 := by kernel_rfl
  obtain ⟨x0, x1, rfl⟩ := len_two hl
  simp [e3, e9] at hf
  obtain ⟨h0, h1⟩ := hf
  obtain ⟨n0, e0, _⟩ := h0.string Try.underlying9
  obtain ⟨n1, e1, _⟩ := h1.int Try.underlying3
  simp at e0 e1
  subst e0 e1
  exact ⟨⟨n0, n1⟩, rfl⟩
/-- A slice of epochs. -/
def Eps (w : World) (B : Nat) (A : Option Addr) (len cap : Nat) (l : List Ep) : Prop := l.length = len ∧ len ≤ cap ∧ cap ≤ maxLen ∧ Reads w B 2 A len (l.flatMap ep)
theorem eps_arg {w : World} {v : Value} (h : Arg Try.prog w 35 v) : ∃ A len cap l, v = .slice A len cap ∧ Eps w w.heap.size A len cap l := by
  obtain ⟨A, len, cap, l, rfl, h1, h2, h3, h4, h5, _⟩ := h.things ep Try.underlying35 (by rw [ep_cells]; omega) ep_sees
  rw [ep_cells] at h4
  exact ⟨A, len, cap, l, rfl, ⟨h3, h1, h2, h4⟩⟩
section
variable {w w' : World} {B B' len cap : Nat} {A : Option Addr} {l : List Ep}
theorem Eps.below (h : Eps w B A len cap l) (hb : Below B w w') : Eps w' B A len cap l := ⟨h.1, h.2.1, h.2.2.1, h.2.2.2.below hb⟩
theorem Eps.more (h : Eps w B A len cap l) (hb : B ≤ B') : Eps w B' A len cap l := ⟨h.1, h.2.1, h.2.2.1, h.2.2.2.more hb⟩
theorem Eps.at_some (h : Eps w B A len cap l) (hl : 0 < len) : ∃ b off, A = some ⟨b, off, none⟩ ∧ b < B := h.2.2.2.at_some hl
theorem Eps.get (h : Eps w B A len cap l) {k : Nat} (hk : k < len) : ∃ s, l[k]? = some s := ⟨l[k]'(by rw [h.1]; exact hk), List.getElem?_eq_getElem _⟩
theorem Eps.cell {b off : Nat} (h : Eps w B (some ⟨b, off, none⟩) len cap l) {k : Nat} {s : Ep} (hk : k < len) (hs : l[k]? = some s) :
    w.cell? ⟨b, off + k * 2, none⟩ = some (.string s.u) ∧ w.cell? ⟨b, off + k * 2 + 1, none⟩ = some (.int .i64 s.n) :=
  ⟨h.2.2.2.thing ep ep_len hk hs 0 (by omega), h.2.2.2.thing ep ep_len hk hs 1 (by omega)⟩
theorem Eps.of_own {base n : Nat} {v : Value} (h : w.ownsRow base 38 2 v n (l.flatMap ep)) : ∃ A c, v = .slice A n c ∧ Eps w w.heap.size A n c l := by
  have hl : l.length = n := by have := h.1; rw [len_flat ep ep_len] at this; omega
  rcases h.2 with ⟨rfl, rfl⟩ | ⟨g, cap, cur, rfl, _, _, h1, h2, _⟩
  · exact ⟨none, 0, rfl, hl, Nat.le_refl _, Nat.zero_le _, Reads.of_own h⟩
  · exact ⟨_, cap, rfl, hl, h1, h2, Reads.of_own h⟩
end
theorem put_last (L : List Ep) (u : ByteArray) (n : Int) (h : ∀ e ∈ L, bl e.u u = true) : putL L u n = L ++ [⟨u, n⟩] := by
  induction L with
  | nil => rfl
  | cons e L ih =>
    have h1 := h e (by simp)
    simp only [putL, bl_asym h1, eqb_false (fun he : u = e.u => by rw [he, bl_irr] at h1; cases h1), Bool.false_eq_true, if_false, List.cons_append]
    rw [ih (fun f hf => h f (by simp [hf]))]
theorem get_none (L : List Ep) (u : ByteArray) (h : ∀ e ∈ L, bl e.u u = true) : getL L u = 0 := by
  induction L with
  | nil => rfl
  | cons e L ih =>
    have h1 := h e (by simp)
    simp only [getL, eqb_false (fun he : e.u = u => by rw [he, bl_irr] at h1; cases h1), Bool.false_eq_true, if_false]
    exact ih (fun f hf => h f (by simp [hf]))
theorem rising_app (L : List Ep) (e : Ep) : Rising (L ++ [e]) ↔ Rising L ∧ ∀ f ∈ L, bl f.u e.u = true := by
  induction L with
  | nil => simp [Rising]
  | cons f L ih =>
    simp only [List.cons_append, Rising, ih, List.mem_append, List.mem_cons, List.not_mem_nil, or_false]
    constructor
    · rintro ⟨h1, h2, h3⟩
      exact ⟨⟨fun g hg => h1 g (.inl hg), h2⟩, fun g hg => by rcases hg with rfl | hg; exact h1 _ (.inr rfl); exact h3 g hg⟩
    · rintro ⟨⟨h1, h2⟩, h3⟩
      exact ⟨fun g hg => by rcases hg with hg | rfl; exact h1 g hg; exact h3 f (.inl rfl), h2, fun g hg => h3 g (.inr hg)⟩
/-- What is above the last one is above all. -/
theorem above_last (L : List Ep) (p : Ep) (u : ByteArray) (h : Rising (L ++ [p])) (hp : bl p.u u = true) : ∀ e ∈ L ++ [p], bl e.u u = true := by
  intro e he
  rcases List.mem_append.1 he with he | he
  · exact bl_trans (((rising_app L p).1 h).2 e he) hp
  · simp at he; subst he; exact hp
theorem rising_take (L : List Ep) (k : Nat) (h : Rising L) : Rising (L.take k) := by
  induction L generalizing k with
  | nil => simp [Rising]
  | cons e L ih =>
    cases k with
    | zero => simp [Rising]
    | succ k => exact ⟨fun f hf => h.1 f (List.mem_of_mem_take hf), ih k h.2⟩
theorem good_take {L : List Ep} (k : Nat) (h : GoodL L) : GoodL (L.take k) := ⟨rising_take L k h.1, by have := h.2.1; simp; omega, fun e he => h.2.2 e (List.mem_of_mem_take he)⟩
theorem take_last {L : List Ep} {k : Nat} {p : Ep} (h : L[k]? = some p) : L.take (k + 1) = L.take k ++ [p] := by
  obtain ⟨hk, rfl⟩ := List.getElem?_eq_some_iff.1 h
  exact List.take_succ_eq_append_getElem hk
def bad (p x : ByteArray) : Bool := bl x p || eqb x p
theorem bad_iff (p x : ByteArray) : bad p x = !bl p x := by
  unfold bad
  rcases bl_tri p x with ⟨h, h1, h2⟩ | ⟨h, h1, h2⟩ | ⟨h, h1, h2⟩
  · subst h; simp [h1, eqb_self]
  · simp [h1, h2, eqb_false (fun e => h e.symm)]
  · simp [h1, h2]
theorem leq_str (a b : ByteArray) (w : World) : (binOp .leq 9 (.string a) (.string b)).run Try.prog w = .ok (.bool (bad b a)) w := by
  simp [go_sem, Op.stringOp, bad, bl, eqb, binOp]
/-- A good beginning goes on. -/
theorem good_step {L : List Ep} {k : Nat} {x : Ep} (hx : L[k]? = some x) (hG : GoodL (L.take k)) (hab : ∀ p, 0 < k → L[k - 1]? = some p → bl p.u x.u = true) (hc : canC (L.take k) x.u x.n = 0) :
    GoodL (L.take (k + 1)) ∧ putL (L.take k) x.u x.n = L.take (k + 1) := by
  have hall : ∀ e ∈ L.take k, bl e.u x.u = true := by
    rcases Nat.eq_zero_or_pos k with h0 | h0
    · subst h0; simp
    · obtain ⟨j, rfl⟩ : ∃ j, k = j + 1 := ⟨k - 1, by omega⟩
      obtain ⟨hk, _⟩ := List.getElem?_eq_some_iff.1 hx
      have hp : L[j]? = some L[j] := List.getElem?_eq_getElem (by omega)
      rw [take_last hp] at hG ⊢
      exact above_last _ _ _ hG.1 (hab _ h0 (by simp only [Nat.add_sub_cancel]; exact hp))
  have hput : putL (L.take k) x.u x.n = L.take (k + 1) := by rw [put_last _ _ _ hall, take_last hx]
  rw [← hput]
  exact ⟨(good_put hG hc).1, rfl⟩
theorem good_next {L : List Ep} {k : Nat} {x : Ep} (hx : L[k]? = some x) (hG : GoodL L) : canC (L.take k) x.u x.n = 0 ∧ ∀ p, 0 < k → L[k - 1]? = some p → bl p.u x.u = true := by
  have hG1 := good_take (k + 1) hG
  rw [take_last hx] at hG1
  have hall := ((rising_app _ _).1 hG1.1).2
  refine ⟨?_, fun p h0 hp => ?_⟩
  · unfold canC
    rw [if_pos (hG.2.2 x (List.mem_of_getElem? hx)), if_neg]
    rintro ⟨_, h⟩
    have := hG1.2.1
    simp only [List.length_append, List.length_cons, List.length_nil] at this
    omega
  · obtain ⟨j, rfl⟩ : ∃ j, k = j + 1 := ⟨k - 1, by omega⟩
    simp only [Nat.add_sub_cancel] at hp
    exact hall p (by rw [take_last hp]; simp)

def NewNo (w : World) (e : Ending) (w' : World) : Prop := ∃ v, e = .returned (.tuple #[.pointer none, v]) ∧ Err w' v 1 ∧ v ≠ .nilIface ∧ Below w.heap.size w w'
def NewYes (L : List Ep) (w : World) (e : Ending) (w' : World) : Prop := ∃ g b, e = .returned (.tuple #[.pointer (some ⟨g, 0, none⟩), .nilIface]) ∧ w.heap.size ≤ g ∧ w.heap.size ≤ b ∧ Tab w' g b L ∧ Below w.heap.size w w'
def NewEnd (L : List Ep) (w : World) (e : Ending) (w' : World) : Prop := (GoodL L ∧ NewYes L w e w') ∨ (¬ GoodL L ∧ NewNo w e w')
set_option maxRecDepth 100000 in
set_option maxHeartbeats 1600000 in
theorem new_any (A : Option Addr) (len cap : Nat) (L : List Ep) (w : World) (h : Eps w w.heap.size A len cap L) (hl : len ≤ 100000) (hu : ∀ e ∈ L, e.u.size ≤ 1000000) :
    Calls Try.prog 11 #[.slice A len cap] w (NewEnd L w) := by
  have hlc := h.2.1
  have hcm := h.2.2.1
  unfold maxLen at hcm
  have Hu := Lib.hid hu; clear hu
  have H := Lib.hid h
  clear h
  have hmm := @run_makeMap Try.prog
  go_enter Try.func11, Try.ntmps11
  go_wp2
  go_loopw [5, 6, 12] (fun _ _ i wr => ∃ k : Nat, k ≤ len ∧ i = .int .i64 k ∧ GoodL (L.take k) ∧ Tab wr (w.heap.size + 1) w.heap.size (L.take k) ∧ Below w.heap.size w wr) (fun _ _ i _ => len - (intOf i).toNat)
  case atStart =>
    refine ⟨0, by omega, rfl, ⟨trivial, by simp, by simp⟩, ⟨Blk.newAt _ _ _ (by simp), ?_⟩, below_alloc (below_new w _) _⟩
    exact (MapL.new w).below (below_new _ _)
  case round =>
    obtain ⟨k, hk, rfl, hG, hT, hbw⟩ := hrel
    by_cases hlt : k < len
    · obtain ⟨b, off, rfl, hb⟩ := H.out.at_some (by omega)
      obtain ⟨x, hx⟩ := H.out.get hlt
      obtain ⟨hx0, hx1⟩ := (H.out.below hbw).cell hlt hx
      have hxu := Hu.out x (List.mem_of_getElem? hx)
      have hbl := Nat.lt_of_lt_of_le hb hbw.size
      have hprev : ∃ p : Ep, 0 < k → L[k - 1]? = some p ∧ wr.cell? ⟨b, off + (k - 1) * 2, none⟩ = some (.string p.u) := by
        by_cases h0 : 0 < k
        · obtain ⟨p, hp⟩ := H.out.get (k := k - 1) (by omega)
          exact ⟨p, fun _ => ⟨hp, ((H.out.below hbw).cell (by omega) hp).1⟩⟩
        · exact ⟨x, fun h => absurd h h0⟩
      obtain ⟨p, hp⟩ := hprev
      have hstep := fun hab hc => good_step hx hG hab hc
      have hnext := fun hL => good_next hx hL
      have hmax : 0 < k ∨ k = 0 := by omega
      obtain ⟨xu, xn⟩ := x
      obtain ⟨pu, pn⟩ := p
      dsimp only at hx0 hx1 hstep hnext hxu
      have Hstep := Lib.hid hstep
      have Hnext := Lib.hid hnext
      have Hp := Lib.hid hp
      have hlen : (L.take k).length ≤ 1000000 := by simp; omega
      have hgl := hT.1.lt
      have HG := Lib.hid hG
      have HT := Lib.hid hT
      have Hbw := Lib.hid hbw
      have Hx := Lib.hid hx
      clear hG hT hbw hx
      clear hstep hnext hp
      have hX := Blk.new wr 38 #[.string xu, .int .i64 xn]
      have hwx := below_new wr (.cells #[.string xu, .int .i64 xn] 38)
      have hT2 := HT.out.below hwx
      have HX := Lib.hid hX
      have Hwx := Lib.hid hwx
      have HT2 := Lib.hid hT2
      clear hX hwx hT2
      have hleq := leq_str xu pu
      by_cases hc : canC (L.take k) xu xn = 0
      · have Hc := Lib.hid hc
        clear hc
        rcases hmax with h0 | h0
        · obtain ⟨j, rfl⟩ : ∃ j, k = j + 1 := ⟨k - 1, by omega⟩
          obtain ⟨hpl, hpc⟩ := Hp.out h0
          simp only [Nat.add_sub_cancel] at hpl hpc
          have hwj : IntKind.i64.wrap (j : Int) = j := IntWalk.i64_in _ (by omega)
          have hj1 : (j : Int) < len := by omega
          have hd0 : decide (0 < (j : Int) + 1) = true := by simp <;> omega
          have Hpl := Lib.hid hpl
          rw [bad_iff] at hleq
          by_cases hbp : bl pu xu = true
          · rw [hbp] at hleq
            have hab : ∀ p : Ep, 0 < j + 1 → L[j + 1 - 1]? = some p → bl p.u xu = true := fun p _ hp2 => by
              simp only [Nat.add_sub_cancel] at hp2; rw [Hpl.out] at hp2; injection hp2 with hp2; subst hp2; exact hbp
            have Hab := Lib.hid hab
            clear hab hpl hbp
            go_wp2_with fail
            refine wp_region_mono nobody (by kernel_rfl) ?_
            -- 0 Op.move (Operand.tmp 4)
            refine wpMono_take' 0 (v := ?_) rfl (by kernel_rfl) (by kernel_rfl) (by kernel_rfl) (fun _ _ _ h => h) (by rfl) ?_ ?_
            rotate_left
            · (intro W hSw; have hcW := hSw.cells; try simp only [World.size_drew, World.cell?_drew] at hcW
               go_simp; first | done | rfl)
            try simp only [Act.put, List.setIfInBounds_toArray, List.set_cons_zero, List.set_cons_succ]
            -- 1 Op.fieldAddr 38 (Operand.tmp 6) 0
            refine wpMono_take' 1 (v := ?_) rfl (by kernel_rfl) (by kernel_rfl) (by kernel_rfl) (fun _ _ _ h => h) (by rfl) ?_ ?_
            rotate_left
            · (intro W hSw; have hcW := hSw.cells; try simp only [World.size_drew, World.cell?_drew] at hcW
               go_simp; first | done | rfl)
            try simp only [Act.put, List.setIfInBounds_toArray, List.set_cons_zero, List.set_cons_succ]
            -- 2 Op.load 9 (Operand.tmp 18)
            refine wpMono_take' 2 (v := ?_) rfl (by kernel_rfl) (by kernel_rfl) (by kernel_rfl) (fun _ _ _ h => h) (by rfl) ?_ ?_
            rotate_left
            · (intro W hSw; have hcW := hSw.cells; try simp only [World.size_drew, World.cell?_drew] at hcW
               go_simp; first | done | rfl)
            try simp only [Act.put, List.setIfInBounds_toArray, List.set_cons_zero, List.set_cons_succ]
            -- 3 Op.fieldAddr 38 (Operand.tmp 6) 1
            refine wpMono_take' 3 (v := ?_) rfl (by kernel_rfl) (by kernel_rfl) (by kernel_rfl) (fun _ _ _ h => h) (by rfl) ?_ ?_
            rotate_left
            · (intro W hSw; have hcW := hSw.cells; try simp only [World.size_drew, World.cell?_drew] at hcW
               go_simp; first | done | rfl)
            try simp only [Act.put, List.setIfInBounds_toArray, List.set_cons_zero, List.set_cons_succ]
            -- 4 Op.load 3 (Operand.tmp 20)
            refine wpMono_take' 4 (v := ?_) rfl (by kernel_rfl) (by kernel_rfl) (by kernel_rfl) (fun _ _ _ h => h) (by rfl) ?_ ?_
            rotate_left
            · (intro W hSw; have hcW := hSw.cells; try simp only [World.size_drew, World.cell?_drew] at hcW
               go_simp; first | done | rfl)
            try simp only [Act.put, List.setIfInBounds_toArray, List.set_cons_zero, List.set_cons_succ]
            -- EFFECT 5 Op.call { callee := Callee.value (Operand.func 22), args := #[Operand.tmp 17, Operand.tmp 19, Operand.tmp 21], argTypes := #[26, 9, 3] }
            refine wpMono_one' 5 (by kernel_rfl) rfl (by rfl) (fun K hK => ?_)
            go_simp
            refine (can_any _ _ _ _ _ _ (HT2.out.keeps (X := nobody) .drew (fun h => h) (fun h => h)) (by unfold maxLen; omega) hlen).mono ?_
            rintro e w2 ⟨v, rfl, he, hb2⟩
            have hv : v = .nilIface := by rcases he with ⟨_, h⟩ | ⟨h, _⟩; exact h; exact absurd Hc.out h
            subst hv
            have hb2' := below_ofDrew hb2
            have hb3 := Lib.hid (below_step Hbw.out (below_step Hwx.out hb2'))
            have hX3 := HX.out.below hb2' HX.out.lt
            have hT3 := HT2.out.below hb2'
            have q0 : w2.cell? ⟨wr.heap.size, 0, none⟩ = _ := hX3.cell 0
            have q1 : w2.cell? ⟨wr.heap.size, 1, none⟩ = _ := hX3.cell 1
            have q2 := hX3.lt
            have q3 : w2.cell? ⟨w.heap.size + 1, 0, none⟩ = _ := hT3.1.cell 0
            have q4 := hT3.1.lt
            have q5 : b < w2.heap.size := Nat.lt_of_lt_of_le hbl (Nat.le_trans Hwx.out.size hb2'.size)
            have q6 := (hb2'.cell (p := ⟨b, off + j * 2, none⟩) (Nat.lt_of_lt_of_le hbl Hwx.out.size)).trans ((Hwx.out.cell (p := ⟨b, off + j * 2, none⟩) hbl).trans hpc)
            simp at q0 q1 q3
            have HX3 := Lib.hid hX3
            have HT3 := Lib.hid hT3
            clear he hb2' hX3 hT3
            refine hK.out _ _ ?_ ?_
            · exact .of_below hb2
            clear hK K
            try simp only [Act.put, List.setIfInBounds_toArray, List.set_cons_zero, List.set_cons_succ]
            -- 6 Op.binOp BinOp.neq 28 (Operand.tmp 22) (Operand.const Value.nilIface) 28
            refine wpMono_take' 6 (v := ?_) rfl (by kernel_rfl) (by kernel_rfl) (by kernel_rfl) (fun _ _ _ h => h) (by rfl) ?_ ?_
            rotate_left
            · (intro W hSw; have hcW := hSw.cells; try simp only [World.size_drew, World.cell?_drew] at hcW
               go_simp; first | done | rfl)
            try simp only [Act.put, List.setIfInBounds_toArray, List.set_cons_zero, List.set_cons_succ]
            -- 7 Op.move (Operand.tmp 23)
            refine wpMono_take' 7 (v := ?_) rfl (by kernel_rfl) (by kernel_rfl) (by kernel_rfl) (fun _ _ _ h => h) (by rfl) ?_ ?_
            rotate_left
            · (intro W hSw; have hcW := hSw.cells; try simp only [World.size_drew, World.cell?_drew] at hcW
               go_simp; first | done | rfl)
            try simp only [Act.put, List.setIfInBounds_toArray, List.set_cons_zero, List.set_cons_succ]
            -- 8 Op.move (Operand.tmp 5)
            refine wpMono_take' 8 (v := ?_) rfl (by kernel_rfl) (by kernel_rfl) (by kernel_rfl) (fun _ _ _ h => h) (by rfl) ?_ ?_
            rotate_left
            · (intro W hSw; have hcW := hSw.cells; try simp only [World.size_drew, World.cell?_drew] at hcW
               go_simp; first | done | rfl)
            try simp only [Act.put, List.setIfInBounds_toArray, List.set_cons_zero, List.set_cons_succ]
            -- 9 Op.binOp BinOp.gtr 3 (Operand.tmp 25) (Operand.const (Value.int IntKind.i64 0)) 3
            refine wpMono_take' 9 (v := ?_) rfl (by kernel_rfl) (by kernel_rfl) (by kernel_rfl) (fun _ _ _ h => h) (by rfl) ?_ ?_
            rotate_left
            · (intro W hSw; have hcW := hSw.cells; try simp only [World.size_drew, World.cell?_drew] at hcW
               go_simp; first | done | rfl)
            try simp only [Act.put, List.setIfInBounds_toArray, List.set_cons_zero, List.set_cons_succ]
            -- 10 Op.move (Operand.tmp 26)
            refine wpMono_take' 10 (v := ?_) rfl (by kernel_rfl) (by kernel_rfl) (by kernel_rfl) (fun _ _ _ h => h) (by rfl) ?_ ?_
            rotate_left
            · (intro W hSw; have hcW := hSw.cells; try simp only [World.size_drew, World.cell?_drew] at hcW
               go_simp; first | done | rfl)
            try simp only [Act.put, List.setIfInBounds_toArray, List.set_cons_zero, List.set_cons_succ]
            -- 11 Op.fieldAddr 38 (Operand.tmp 6) 0
            refine wpMono_take' 11 (v := ?_) rfl (by kernel_rfl) (by kernel_rfl) (by kernel_rfl) (fun _ _ _ h => h) (by rfl) ?_ ?_
            rotate_left
            · (intro W hSw; have hcW := hSw.cells; try simp only [World.size_drew, World.cell?_drew] at hcW
               go_simp; first | done | rfl)
            try simp only [Act.put, List.setIfInBounds_toArray, List.set_cons_zero, List.set_cons_succ]
            -- 12 Op.load 9 (Operand.tmp 28)
            refine wpMono_take' 12 (v := ?_) rfl (by kernel_rfl) (by kernel_rfl) (by kernel_rfl) (fun _ _ _ h => h) (by rfl) ?_ ?_
            rotate_left
            · (intro W hSw; have hcW := hSw.cells; try simp only [World.size_drew, World.cell?_drew] at hcW
               go_simp; first | done | rfl)
            try simp only [Act.put, List.setIfInBounds_toArray, List.set_cons_zero, List.set_cons_succ]
            -- 13 Op.move (Operand.tmp 0)
            refine wpMono_take' 13 (v := ?_) rfl (by kernel_rfl) (by kernel_rfl) (by kernel_rfl) (fun _ _ _ h => h) (by rfl) ?_ ?_
            rotate_left
            · (intro W hSw; have hcW := hSw.cells; try simp only [World.size_drew, World.cell?_drew] at hcW
               go_simp; first | done | rfl)
            try simp only [Act.put, List.setIfInBounds_toArray, List.set_cons_zero, List.set_cons_succ]
            -- 14 Op.move (Operand.tmp 5)
            refine wpMono_take' 14 (v := ?_) rfl (by kernel_rfl) (by kernel_rfl) (by kernel_rfl) (fun _ _ _ h => h) (by rfl) ?_ ?_
            rotate_left
            · (intro W hSw; have hcW := hSw.cells; try simp only [World.size_drew, World.cell?_drew] at hcW
               go_simp; first | done | rfl)
            try simp only [Act.put, List.setIfInBounds_toArray, List.set_cons_zero, List.set_cons_succ]
            -- 15 Op.binOp BinOp.sub 3 (Operand.tmp 31) (Operand.const (Value.int IntKind.i64 1)) 3
            refine wpMono_take' 15 (v := ?_) rfl (by kernel_rfl) (by kernel_rfl) (by kernel_rfl) (fun _ _ _ h => h) (by rfl) ?_ ?_
            rotate_left
            · (intro W hSw; have hcW := hSw.cells; try simp only [World.size_drew, World.cell?_drew] at hcW
               go_simp; first | done | rfl)
            try simp only [Act.put, List.setIfInBounds_toArray, List.set_cons_zero, List.set_cons_succ]
            -- 16 Op.indexAddr 35 (Operand.tmp 30) (Operand.tmp 32)
            refine wpMono_take' 16 (v := ?_) rfl (by kernel_rfl) (by kernel_rfl) (by kernel_rfl) (fun _ _ _ h => h) (by rfl) ?_ ?_
            rotate_left
            · (intro W hSw; have hcW := hSw.cells; try simp only [World.size_drew, World.cell?_drew] at hcW
               go_simp; first | done | rfl)
            try simp only [Act.put, List.setIfInBounds_toArray, List.set_cons_zero, List.set_cons_succ]
            -- 17 Op.fieldAddr 38 (Operand.tmp 33) 0
            refine wpMono_take' 17 (v := ?_) rfl (by kernel_rfl) (by kernel_rfl) (by kernel_rfl) (fun _ _ _ h => h) (by rfl) ?_ ?_
            rotate_left
            · (intro W hSw; have hcW := hSw.cells; try simp only [World.size_drew, World.cell?_drew] at hcW
               go_simp; first | done | rfl)
            try simp only [Act.put, List.setIfInBounds_toArray, List.set_cons_zero, List.set_cons_succ]
            -- 18 Op.load 9 (Operand.tmp 34)
            refine wpMono_take' 18 (v := ?_) rfl (by kernel_rfl) (by kernel_rfl) (by kernel_rfl) (fun _ _ _ h => h) (by rfl) ?_ ?_
            rotate_left
            · (intro W hSw; have hcW := hSw.cells; try simp only [World.size_drew, World.cell?_drew] at hcW
               go_simp; first | done | rfl)
            try simp only [Act.put, List.setIfInBounds_toArray, List.set_cons_zero, List.set_cons_succ]
            -- 19 Op.binOp BinOp.leq 9 (Operand.tmp 29) (Operand.tmp 35) 9
            refine wpMono_take' 19 (v := ?_) rfl (by kernel_rfl) (by kernel_rfl) (by kernel_rfl) (fun _ _ _ h => h) (by rfl) ?_ ?_
            rotate_left
            · (intro W hSw; have hcW := hSw.cells; try simp only [World.size_drew, World.cell?_drew] at hcW
               go_simp; first | done | rfl)
            try simp only [Act.put, List.setIfInBounds_toArray, List.set_cons_zero, List.set_cons_succ]
            -- 20 Op.pick (Operand.tmp 27) (Operand.tmp 36) (Operand.const (Value.bool false))
            refine wpMono_take' 20 (v := ?_) rfl (by kernel_rfl) (by kernel_rfl) (by kernel_rfl) (fun _ _ _ h => h) (by rfl) ?_ ?_
            rotate_left
            · (intro W hSw; have hcW := hSw.cells; try simp only [World.size_drew, World.cell?_drew] at hcW
               go_simp; first | done | rfl)
            try simp only [Act.put, List.setIfInBounds_toArray, List.set_cons_zero, List.set_cons_succ]
            -- 21 Op.pick (Operand.tmp 24) (Operand.const (Value.bool true)) (Operand.tmp 37)
            refine wpMono_take' 21 (v := ?_) rfl (by kernel_rfl) (by kernel_rfl) (by kernel_rfl) (fun _ _ _ h => h) (by rfl) ?_ ?_
            rotate_left
            · (intro W hSw; have hcW := hSw.cells; try simp only [World.size_drew, World.cell?_drew] at hcW
               go_simp; first | done | rfl)
            try simp only [Act.put, List.setIfInBounds_toArray, List.set_cons_zero, List.set_cons_succ]
            refine wpMono_done (by kernel_rfl) ?_ _
            have hst := Hstep.out Hab.out Hc.out
            have Hst := Lib.hid hst
            clear hst
            go_wp2_with fail
            refine wp_region_mono (· = w.heap.size) (by kernel_rfl) ?_
            -- 0 Op.move (Operand.tmp 4)
            refine wpMono_take' 0 (v := ?_) rfl (by kernel_rfl) (by kernel_rfl) (by kernel_rfl) (fun _ _ _ h => h) (by rfl) ?_ ?_
            rotate_left
            · (intro W hSw; have z0 := (hSw.cell 0 q2 (fun h => absurd (h : wr.heap.size = w.heap.size) (by omega))).trans q0; have z1 := (hSw.cell 1 q2 (fun h => absurd (h : wr.heap.size = w.heap.size) (by omega))).trans q1; have z2 := (hSw.cell 0 q4 (fun h => absurd (h : w.heap.size + 1 = w.heap.size) (by omega))).trans q3
               go_simp; first | done | rfl)
            try simp only [Act.put, List.setIfInBounds_toArray, List.set_cons_zero, List.set_cons_succ]
            -- 1 Op.nilCheck (Operand.tmp 40)
            refine wpMono_take' 1 (v := ?_) rfl (by kernel_rfl) (by kernel_rfl) (by kernel_rfl) (fun _ _ _ h => h) (by rfl) ?_ ?_
            rotate_left
            · (intro W hSw; have z0 := (hSw.cell 0 q2 (fun h => absurd (h : wr.heap.size = w.heap.size) (by omega))).trans q0; have z1 := (hSw.cell 1 q2 (fun h => absurd (h : wr.heap.size = w.heap.size) (by omega))).trans q1; have z2 := (hSw.cell 0 q4 (fun h => absurd (h : w.heap.size + 1 = w.heap.size) (by omega))).trans q3
               go_simp; first | done | rfl)
            try simp only [Act.put, List.setIfInBounds_toArray, List.set_cons_zero, List.set_cons_succ]
            -- 2 Op.fieldAddr 63 (Operand.tmp 41) 0
            refine wpMono_take' 2 (v := ?_) rfl (by kernel_rfl) (by kernel_rfl) (by kernel_rfl) (fun _ _ _ h => h) (by rfl) ?_ ?_
            rotate_left
            · (intro W hSw; have z0 := (hSw.cell 0 q2 (fun h => absurd (h : wr.heap.size = w.heap.size) (by omega))).trans q0; have z1 := (hSw.cell 1 q2 (fun h => absurd (h : wr.heap.size = w.heap.size) (by omega))).trans q1; have z2 := (hSw.cell 0 q4 (fun h => absurd (h : w.heap.size + 1 = w.heap.size) (by omega))).trans q3
               go_simp; first | done | rfl)
            try simp only [Act.put, List.setIfInBounds_toArray, List.set_cons_zero, List.set_cons_succ]
            -- 3 Op.load 61 (Operand.tmp 42)
            refine wpMono_take' 3 (v := ?_) rfl (by kernel_rfl) (by kernel_rfl) (by kernel_rfl) (fun _ _ _ h => h) (by rfl) ?_ ?_
            rotate_left
            · (intro W hSw; have z0 := (hSw.cell 0 q2 (fun h => absurd (h : wr.heap.size = w.heap.size) (by omega))).trans q0; have z1 := (hSw.cell 1 q2 (fun h => absurd (h : wr.heap.size = w.heap.size) (by omega))).trans q1; have z2 := (hSw.cell 0 q4 (fun h => absurd (h : w.heap.size + 1 = w.heap.size) (by omega))).trans q3
               go_simp; first | done | rfl)
            try simp only [Act.put, List.setIfInBounds_toArray, List.set_cons_zero, List.set_cons_succ]
            -- 4 Op.fieldAddr 38 (Operand.tmp 6) 0
            refine wpMono_take' 4 (v := ?_) rfl (by kernel_rfl) (by kernel_rfl) (by kernel_rfl) (fun _ _ _ h => h) (by rfl) ?_ ?_
            rotate_left
            · (intro W hSw; have z0 := (hSw.cell 0 q2 (fun h => absurd (h : wr.heap.size = w.heap.size) (by omega))).trans q0; have z1 := (hSw.cell 1 q2 (fun h => absurd (h : wr.heap.size = w.heap.size) (by omega))).trans q1; have z2 := (hSw.cell 0 q4 (fun h => absurd (h : w.heap.size + 1 = w.heap.size) (by omega))).trans q3
               go_simp; first | done | rfl)
            try simp only [Act.put, List.setIfInBounds_toArray, List.set_cons_zero, List.set_cons_succ]
            -- 5 Op.load 9 (Operand.tmp 44)
            refine wpMono_take' 5 (v := ?_) rfl (by kernel_rfl) (by kernel_rfl) (by kernel_rfl) (fun _ _ _ h => h) (by rfl) ?_ ?_
            rotate_left
            · (intro W hSw; have z0 := (hSw.cell 0 q2 (fun h => absurd (h : wr.heap.size = w.heap.size) (by omega))).trans q0; have z1 := (hSw.cell 1 q2 (fun h => absurd (h : wr.heap.size = w.heap.size) (by omega))).trans q1; have z2 := (hSw.cell 0 q4 (fun h => absurd (h : w.heap.size + 1 = w.heap.size) (by omega))).trans q3
               go_simp; first | done | rfl)
            try simp only [Act.put, List.setIfInBounds_toArray, List.set_cons_zero, List.set_cons_succ]
            -- 6 Op.fieldAddr 38 (Operand.tmp 6) 1
            refine wpMono_take' 6 (v := ?_) rfl (by kernel_rfl) (by kernel_rfl) (by kernel_rfl) (fun _ _ _ h => h) (by rfl) ?_ ?_
            rotate_left
            · (intro W hSw; have z0 := (hSw.cell 0 q2 (fun h => absurd (h : wr.heap.size = w.heap.size) (by omega))).trans q0; have z1 := (hSw.cell 1 q2 (fun h => absurd (h : wr.heap.size = w.heap.size) (by omega))).trans q1; have z2 := (hSw.cell 0 q4 (fun h => absurd (h : w.heap.size + 1 = w.heap.size) (by omega))).trans q3
               go_simp; first | done | rfl)
            try simp only [Act.put, List.setIfInBounds_toArray, List.set_cons_zero, List.set_cons_succ]
            -- 7 Op.load 3 (Operand.tmp 46)
            refine wpMono_take' 7 (v := ?_) rfl (by kernel_rfl) (by kernel_rfl) (by kernel_rfl) (fun _ _ _ h => h) (by rfl) ?_ ?_
            rotate_left
            · (intro W hSw; have z0 := (hSw.cell 0 q2 (fun h => absurd (h : wr.heap.size = w.heap.size) (by omega))).trans q0; have z1 := (hSw.cell 1 q2 (fun h => absurd (h : wr.heap.size = w.heap.size) (by omega))).trans q1; have z2 := (hSw.cell 0 q4 (fun h => absurd (h : w.heap.size + 1 = w.heap.size) (by omega))).trans q3
               go_simp; first | done | rfl)
            try simp only [Act.put, List.setIfInBounds_toArray, List.set_cons_zero, List.set_cons_succ]
            -- EFFECT 8 Op.mapUpdate 61 (Operand.tmp 43) (Operand.tmp 45) (Operand.tmp 47)
            refine wpMono_one' 8 (by kernel_rfl) rfl (by rfl) (fun K hK => ?_)
            obtain ⟨w3, hrun, hm3, hk3⟩ := (HT3.out.keeps (X := nobody) .drew (fun h => h) (fun h => h)).2.put (u := xu) (by unfold maxLen; omega) (wf_right (good_put HG.out Hc.out).2) hlen
            go_simp
            refine hK.out _ _ ?_ ?_
            · exact hk3
            clear hK K
            try simp only [Act.put]
            refine wpMono_done (by kernel_rfl) ?_ _
            have hT4 : Tab w3 (w.heap.size + 1) w.heap.size _ := ⟨(HT3.out.1.drew).keeps hk3 (by omega), hm3⟩
            have hb4 := below_kept (hb3.out.drew) hk3 (fun i hi => by omega)
            have Hfin := Lib.hid (And.intro hT4 hb4)
            clear hT4 hb4 hm3 hk3 hrun
            go_wp2
            go_roundw
            case rel => exact ⟨j + 1 + 1, by omega, by go_num, Hst.out.1, by rw [← Hst.out.2]; exact Hfin.out.1, Hfin.out.2⟩
            case measure => simp [intOf]; omega
          · have hng : ¬ GoodL L := fun hL => hbp ((Hnext.out hL).2 _ h0 (by simp only [Nat.add_sub_cancel]; exact Hpl.out))
            have Hng := Lib.hid hng
            rw [show bl pu xu = false by simpa using hbp] at hleq
            clear hng hpl hbp
            go_wp2_with fail
            refine wp_region_mono nobody (by kernel_rfl) ?_
            -- 0 Op.move (Operand.tmp 4)
            refine wpMono_take' 0 (v := ?_) rfl (by kernel_rfl) (by kernel_rfl) (by kernel_rfl) (fun _ _ _ h => h) (by rfl) ?_ ?_
            rotate_left
            · (intro W hSw; have hcW := hSw.cells; try simp only [World.size_drew, World.cell?_drew] at hcW
               go_simp; first | done | rfl)
            try simp only [Act.put, List.setIfInBounds_toArray, List.set_cons_zero, List.set_cons_succ]
            -- 1 Op.fieldAddr 38 (Operand.tmp 6) 0
            refine wpMono_take' 1 (v := ?_) rfl (by kernel_rfl) (by kernel_rfl) (by kernel_rfl) (fun _ _ _ h => h) (by rfl) ?_ ?_
            rotate_left
            · (intro W hSw; have hcW := hSw.cells; try simp only [World.size_drew, World.cell?_drew] at hcW
               go_simp; first | done | rfl)
            try simp only [Act.put, List.setIfInBounds_toArray, List.set_cons_zero, List.set_cons_succ]
            -- 2 Op.load 9 (Operand.tmp 18)
            refine wpMono_take' 2 (v := ?_) rfl (by kernel_rfl) (by kernel_rfl) (by kernel_rfl) (fun _ _ _ h => h) (by rfl) ?_ ?_
            rotate_left
            · (intro W hSw; have hcW := hSw.cells; try simp only [World.size_drew, World.cell?_drew] at hcW
               go_simp; first | done | rfl)
            try simp only [Act.put, List.setIfInBounds_toArray, List.set_cons_zero, List.set_cons_succ]
            -- 3 Op.fieldAddr 38 (Operand.tmp 6) 1
            refine wpMono_take' 3 (v := ?_) rfl (by kernel_rfl) (by kernel_rfl) (by kernel_rfl) (fun _ _ _ h => h) (by rfl) ?_ ?_
            rotate_left
            · (intro W hSw; have hcW := hSw.cells; try simp only [World.size_drew, World.cell?_drew] at hcW
               go_simp; first | done | rfl)
            try simp only [Act.put, List.setIfInBounds_toArray, List.set_cons_zero, List.set_cons_succ]
            -- 4 Op.load 3 (Operand.tmp 20)
            refine wpMono_take' 4 (v := ?_) rfl (by kernel_rfl) (by kernel_rfl) (by kernel_rfl) (fun _ _ _ h => h) (by rfl) ?_ ?_
            rotate_left
            · (intro W hSw; have hcW := hSw.cells; try simp only [World.size_drew, World.cell?_drew] at hcW
               go_simp; first | done | rfl)
            try simp only [Act.put, List.setIfInBounds_toArray, List.set_cons_zero, List.set_cons_succ]
            -- EFFECT 5 Op.call { callee := Callee.value (Operand.func 22), args := #[Operand.tmp 17, Operand.tmp 19, Operand.tmp 21], argTypes := #[26, 9, 3] }
            refine wpMono_one' 5 (by kernel_rfl) rfl (by rfl) (fun K hK => ?_)
            go_simp
            refine (can_any _ _ _ _ _ _ (HT2.out.keeps (X := nobody) .drew (fun h => h) (fun h => h)) (by unfold maxLen; omega) hlen).mono ?_
            rintro e w2 ⟨v, rfl, he, hb2⟩
            have hv : v = .nilIface := by rcases he with ⟨_, h⟩ | ⟨h, _⟩; exact h; exact absurd Hc.out h
            subst hv
            have hb2' := below_ofDrew hb2
            have hb3 := Lib.hid (below_step Hbw.out (below_step Hwx.out hb2'))
            have hX3 := HX.out.below hb2' HX.out.lt
            have hT3 := HT2.out.below hb2'
            have q0 : w2.cell? ⟨wr.heap.size, 0, none⟩ = _ := hX3.cell 0
            have q1 : w2.cell? ⟨wr.heap.size, 1, none⟩ = _ := hX3.cell 1
            have q2 := hX3.lt
            have q3 : w2.cell? ⟨w.heap.size + 1, 0, none⟩ = _ := hT3.1.cell 0
            have q4 := hT3.1.lt
            have q5 : b < w2.heap.size := Nat.lt_of_lt_of_le hbl (Nat.le_trans Hwx.out.size hb2'.size)
            have q6 := (hb2'.cell (p := ⟨b, off + j * 2, none⟩) (Nat.lt_of_lt_of_le hbl Hwx.out.size)).trans ((Hwx.out.cell (p := ⟨b, off + j * 2, none⟩) hbl).trans hpc)
            simp at q0 q1 q3
            have HX3 := Lib.hid hX3
            have HT3 := Lib.hid hT3
            clear he hb2' hX3 hT3
            refine hK.out _ _ ?_ ?_
            · exact .of_below hb2
            clear hK K
            try simp only [Act.put, List.setIfInBounds_toArray, List.set_cons_zero, List.set_cons_succ]
            -- 6 Op.binOp BinOp.neq 28 (Operand.tmp 22) (Operand.const Value.nilIface) 28
            refine wpMono_take' 6 (v := ?_) rfl (by kernel_rfl) (by kernel_rfl) (by kernel_rfl) (fun _ _ _ h => h) (by rfl) ?_ ?_
            rotate_left
            · (intro W hSw; have hcW := hSw.cells; try simp only [World.size_drew, World.cell?_drew] at hcW
               go_simp; first | done | rfl)
            try simp only [Act.put, List.setIfInBounds_toArray, List.set_cons_zero, List.set_cons_succ]
            -- 7 Op.move (Operand.tmp 23)
            refine wpMono_take' 7 (v := ?_) rfl (by kernel_rfl) (by kernel_rfl) (by kernel_rfl) (fun _ _ _ h => h) (by rfl) ?_ ?_
            rotate_left
            · (intro W hSw; have hcW := hSw.cells; try simp only [World.size_drew, World.cell?_drew] at hcW
               go_simp; first | done | rfl)
            try simp only [Act.put, List.setIfInBounds_toArray, List.set_cons_zero, List.set_cons_succ]
            -- 8 Op.move (Operand.tmp 5)
            refine wpMono_take' 8 (v := ?_) rfl (by kernel_rfl) (by kernel_rfl) (by kernel_rfl) (fun _ _ _ h => h) (by rfl) ?_ ?_
            rotate_left
            · (intro W hSw; have hcW := hSw.cells; try simp only [World.size_drew, World.cell?_drew] at hcW
               go_simp; first | done | rfl)
            try simp only [Act.put, List.setIfInBounds_toArray, List.set_cons_zero, List.set_cons_succ]
            -- 9 Op.binOp BinOp.gtr 3 (Operand.tmp 25) (Operand.const (Value.int IntKind.i64 0)) 3
            refine wpMono_take' 9 (v := ?_) rfl (by kernel_rfl) (by kernel_rfl) (by kernel_rfl) (fun _ _ _ h => h) (by rfl) ?_ ?_
            rotate_left
            · (intro W hSw; have hcW := hSw.cells; try simp only [World.size_drew, World.cell?_drew] at hcW
               go_simp; first | done | rfl)
            try simp only [Act.put, List.setIfInBounds_toArray, List.set_cons_zero, List.set_cons_succ]
            -- 10 Op.move (Operand.tmp 26)
            refine wpMono_take' 10 (v := ?_) rfl (by kernel_rfl) (by kernel_rfl) (by kernel_rfl) (fun _ _ _ h => h) (by rfl) ?_ ?_
            rotate_left
            · (intro W hSw; have hcW := hSw.cells; try simp only [World.size_drew, World.cell?_drew] at hcW
               go_simp; first | done | rfl)
            try simp only [Act.put, List.setIfInBounds_toArray, List.set_cons_zero, List.set_cons_succ]
            -- 11 Op.fieldAddr 38 (Operand.tmp 6) 0
            refine wpMono_take' 11 (v := ?_) rfl (by kernel_rfl) (by kernel_rfl) (by kernel_rfl) (fun _ _ _ h => h) (by rfl) ?_ ?_
            rotate_left
            · (intro W hSw; have hcW := hSw.cells; try simp only [World.size_drew, World.cell?_drew] at hcW
               go_simp; first | done | rfl)
            try simp only [Act.put, List.setIfInBounds_toArray, List.set_cons_zero, List.set_cons_succ]
            -- 12 Op.load 9 (Operand.tmp 28)
            refine wpMono_take' 12 (v := ?_) rfl (by kernel_rfl) (by kernel_rfl) (by kernel_rfl) (fun _ _ _ h => h) (by rfl) ?_ ?_
            rotate_left
            · (intro W hSw; have hcW := hSw.cells; try simp only [World.size_drew, World.cell?_drew] at hcW
               go_simp; first | done | rfl)
            try simp only [Act.put, List.setIfInBounds_toArray, List.set_cons_zero, List.set_cons_succ]
            -- 13 Op.move (Operand.tmp 0)
            refine wpMono_take' 13 (v := ?_) rfl (by kernel_rfl) (by kernel_rfl) (by kernel_rfl) (fun _ _ _ h => h) (by rfl) ?_ ?_
            rotate_left
            · (intro W hSw; have hcW := hSw.cells; try simp only [World.size_drew, World.cell?_drew] at hcW
               go_simp; first | done | rfl)
            try simp only [Act.put, List.setIfInBounds_toArray, List.set_cons_zero, List.set_cons_succ]
            -- 14 Op.move (Operand.tmp 5)
            refine wpMono_take' 14 (v := ?_) rfl (by kernel_rfl) (by kernel_rfl) (by kernel_rfl) (fun _ _ _ h => h) (by rfl) ?_ ?_
            rotate_left
            · (intro W hSw; have hcW := hSw.cells; try simp only [World.size_drew, World.cell?_drew] at hcW
               go_simp; first | done | rfl)
            try simp only [Act.put, List.setIfInBounds_toArray, List.set_cons_zero, List.set_cons_succ]
            -- 15 Op.binOp BinOp.sub 3 (Operand.tmp 31) (Operand.const (Value.int IntKind.i64 1)) 3
            refine wpMono_take' 15 (v := ?_) rfl (by kernel_rfl) (by kernel_rfl) (by kernel_rfl) (fun _ _ _ h => h) (by rfl) ?_ ?_
            rotate_left
            · (intro W hSw; have hcW := hSw.cells; try simp only [World.size_drew, World.cell?_drew] at hcW
               go_simp; first | done | rfl)
            try simp only [Act.put, List.setIfInBounds_toArray, List.set_cons_zero, List.set_cons_succ]
            -- 16 Op.indexAddr 35 (Operand.tmp 30) (Operand.tmp 32)
            refine wpMono_take' 16 (v := ?_) rfl (by kernel_rfl) (by kernel_rfl) (by kernel_rfl) (fun _ _ _ h => h) (by rfl) ?_ ?_
            rotate_left
            · (intro W hSw; have hcW := hSw.cells; try simp only [World.size_drew, World.cell?_drew] at hcW
               go_simp; first | done | rfl)
            try simp only [Act.put, List.setIfInBounds_toArray, List.set_cons_zero, List.set_cons_succ]
            -- 17 Op.fieldAddr 38 (Operand.tmp 33) 0
            refine wpMono_take' 17 (v := ?_) rfl (by kernel_rfl) (by kernel_rfl) (by kernel_rfl) (fun _ _ _ h => h) (by rfl) ?_ ?_
            rotate_left
            · (intro W hSw; have hcW := hSw.cells; try simp only [World.size_drew, World.cell?_drew] at hcW
               go_simp; first | done | rfl)
            try simp only [Act.put, List.setIfInBounds_toArray, List.set_cons_zero, List.set_cons_succ]
            -- 18 Op.load 9 (Operand.tmp 34)
            refine wpMono_take' 18 (v := ?_) rfl (by kernel_rfl) (by kernel_rfl) (by kernel_rfl) (fun _ _ _ h => h) (by rfl) ?_ ?_
            rotate_left
            · (intro W hSw; have hcW := hSw.cells; try simp only [World.size_drew, World.cell?_drew] at hcW
               go_simp; first | done | rfl)
            try simp only [Act.put, List.setIfInBounds_toArray, List.set_cons_zero, List.set_cons_succ]
            -- 19 Op.binOp BinOp.leq 9 (Operand.tmp 29) (Operand.tmp 35) 9
            refine wpMono_take' 19 (v := ?_) rfl (by kernel_rfl) (by kernel_rfl) (by kernel_rfl) (fun _ _ _ h => h) (by rfl) ?_ ?_
            rotate_left
            · (intro W hSw; have hcW := hSw.cells; try simp only [World.size_drew, World.cell?_drew] at hcW
               go_simp; first | done | rfl)
            try simp only [Act.put, List.setIfInBounds_toArray, List.set_cons_zero, List.set_cons_succ]
            -- 20 Op.pick (Operand.tmp 27) (Operand.tmp 36) (Operand.const (Value.bool false))
            refine wpMono_take' 20 (v := ?_) rfl (by kernel_rfl) (by kernel_rfl) (by kernel_rfl) (fun _ _ _ h => h) (by rfl) ?_ ?_
            rotate_left
            · (intro W hSw; have hcW := hSw.cells; try simp only [World.size_drew, World.cell?_drew] at hcW
               go_simp; first | done | rfl)
            try simp only [Act.put, List.setIfInBounds_toArray, List.set_cons_zero, List.set_cons_succ]
            -- 21 Op.pick (Operand.tmp 24) (Operand.const (Value.bool true)) (Operand.tmp 37)
            refine wpMono_take' 21 (v := ?_) rfl (by kernel_rfl) (by kernel_rfl) (by kernel_rfl) (fun _ _ _ h => h) (by rfl) ?_ ?_
            rotate_left
            · (intro W hSw; have hcW := hSw.cells; try simp only [World.size_drew, World.cell?_drew] at hcW
               go_simp; first | done | rfl)
            try simp only [Act.put, List.setIfInBounds_toArray, List.set_cons_zero, List.set_cons_succ]
            refine wpMono_done (by kernel_rfl) ?_ _
            go_wp2_with fail
            refine (bad_any _ _).mono ?_
            rintro e w4 ⟨v4, rfl, e1, e2, e3, e4⟩
            have HH := Lib.hid (.inr ⟨Hng.out, v4, rfl, e1, e2, below_step hb3.out e3⟩ : NewEnd L w (.returned (.tuple #[.pointer none, v4])) w4)
            clear e1 e2 e3 e4
            go_wp2
            go_ret2
            exact HH.out
        · subst h0
          simp only [Nat.zero_mul, Nat.add_zero] at hx0 hx1
          go_wp2_with fail
          refine wp_region_mono nobody (by kernel_rfl) ?_
          -- 0 Op.move (Operand.tmp 4)
          refine wpMono_take' 0 (v := ?_) rfl (by kernel_rfl) (by kernel_rfl) (by kernel_rfl) (fun _ _ _ h => h) (by rfl) ?_ ?_
          rotate_left
          · (intro W hSw; have hcW := hSw.cells; try simp only [World.size_drew, World.cell?_drew] at hcW
             go_simp; first | done | rfl)
          try simp only [Act.put, List.setIfInBounds_toArray, List.set_cons_zero, List.set_cons_succ]
          -- 1 Op.fieldAddr 38 (Operand.tmp 6) 0
          refine wpMono_take' 1 (v := ?_) rfl (by kernel_rfl) (by kernel_rfl) (by kernel_rfl) (fun _ _ _ h => h) (by rfl) ?_ ?_
          rotate_left
          · (intro W hSw; have hcW := hSw.cells; try simp only [World.size_drew, World.cell?_drew] at hcW
             go_simp; first | done | rfl)
          try simp only [Act.put, List.setIfInBounds_toArray, List.set_cons_zero, List.set_cons_succ]
          -- 2 Op.load 9 (Operand.tmp 18)
          refine wpMono_take' 2 (v := ?_) rfl (by kernel_rfl) (by kernel_rfl) (by kernel_rfl) (fun _ _ _ h => h) (by rfl) ?_ ?_
          rotate_left
          · (intro W hSw; have hcW := hSw.cells; try simp only [World.size_drew, World.cell?_drew] at hcW
             go_simp; first | done | rfl)
          try simp only [Act.put, List.setIfInBounds_toArray, List.set_cons_zero, List.set_cons_succ]
          -- 3 Op.fieldAddr 38 (Operand.tmp 6) 1
          refine wpMono_take' 3 (v := ?_) rfl (by kernel_rfl) (by kernel_rfl) (by kernel_rfl) (fun _ _ _ h => h) (by rfl) ?_ ?_
          rotate_left
          · (intro W hSw; have hcW := hSw.cells; try simp only [World.size_drew, World.cell?_drew] at hcW
             go_simp; first | done | rfl)
          try simp only [Act.put, List.setIfInBounds_toArray, List.set_cons_zero, List.set_cons_succ]
          -- 4 Op.load 3 (Operand.tmp 20)
          refine wpMono_take' 4 (v := ?_) rfl (by kernel_rfl) (by kernel_rfl) (by kernel_rfl) (fun _ _ _ h => h) (by rfl) ?_ ?_
          rotate_left
          · (intro W hSw; have hcW := hSw.cells; try simp only [World.size_drew, World.cell?_drew] at hcW
             go_simp; first | done | rfl)
          try simp only [Act.put, List.setIfInBounds_toArray, List.set_cons_zero, List.set_cons_succ]
          -- EFFECT 5 Op.call { callee := Callee.value (Operand.func 22), args := #[Operand.tmp 17, Operand.tmp 19, Operand.tmp 21], argTypes := #[26, 9, 3] }
          refine wpMono_one' 5 (by kernel_rfl) rfl (by rfl) (fun K hK => ?_)
          go_simp
          refine (can_any _ _ _ _ _ _ (HT2.out.keeps (X := nobody) .drew (fun h => h) (fun h => h)) (by unfold maxLen; omega) hlen).mono ?_
          rintro e w2 ⟨v, rfl, he, hb2⟩
          have hv : v = .nilIface := by rcases he with ⟨_, h⟩ | ⟨h, _⟩; exact h; exact absurd Hc.out h
          subst hv
          have hb2' := below_ofDrew hb2
          have hb3 := Lib.hid (below_step Hbw.out (below_step Hwx.out hb2'))
          have hX3 := HX.out.below hb2' HX.out.lt
          have hT3 := HT2.out.below hb2'
          have q0 : w2.cell? ⟨wr.heap.size, 0, none⟩ = _ := hX3.cell 0
          have q1 : w2.cell? ⟨wr.heap.size, 1, none⟩ = _ := hX3.cell 1
          have q2 := hX3.lt
          have q3 : w2.cell? ⟨w.heap.size + 1, 0, none⟩ = _ := hT3.1.cell 0
          have q4 := hT3.1.lt
          have q5 : b < w2.heap.size := Nat.lt_of_lt_of_le hbl (Nat.le_trans Hwx.out.size hb2'.size)
          simp at q0 q1 q3
          have HX3 := Lib.hid hX3
          have HT3 := Lib.hid hT3
          clear he hb2' hX3 hT3
          refine hK.out _ _ ?_ ?_
          · exact .of_below hb2
          clear hK K
          try simp only [Act.put, List.setIfInBounds_toArray, List.set_cons_zero, List.set_cons_succ]
          -- 6 Op.binOp BinOp.neq 28 (Operand.tmp 22) (Operand.const Value.nilIface) 28
          refine wpMono_take' 6 (v := ?_) rfl (by kernel_rfl) (by kernel_rfl) (by kernel_rfl) (fun _ _ _ h => h) (by rfl) ?_ ?_
          rotate_left
          · (intro W hSw; have hcW := hSw.cells; try simp only [World.size_drew, World.cell?_drew] at hcW
             go_simp; first | done | rfl)
          try simp only [Act.put, List.setIfInBounds_toArray, List.set_cons_zero, List.set_cons_succ]
          -- 7 Op.move (Operand.tmp 23)
          refine wpMono_take' 7 (v := ?_) rfl (by kernel_rfl) (by kernel_rfl) (by kernel_rfl) (fun _ _ _ h => h) (by rfl) ?_ ?_
          rotate_left
          · (intro W hSw; have hcW := hSw.cells; try simp only [World.size_drew, World.cell?_drew] at hcW
             go_simp; first | done | rfl)
          try simp only [Act.put, List.setIfInBounds_toArray, List.set_cons_zero, List.set_cons_succ]
          -- 8 Op.move (Operand.tmp 5)
          refine wpMono_take' 8 (v := ?_) rfl (by kernel_rfl) (by kernel_rfl) (by kernel_rfl) (fun _ _ _ h => h) (by rfl) ?_ ?_
          rotate_left
          · (intro W hSw; have hcW := hSw.cells; try simp only [World.size_drew, World.cell?_drew] at hcW
             go_simp; first | done | rfl)
          try simp only [Act.put, List.setIfInBounds_toArray, List.set_cons_zero, List.set_cons_succ]
          -- 9 Op.binOp BinOp.gtr 3 (Operand.tmp 25) (Operand.const (Value.int IntKind.i64 0)) 3
          refine wpMono_take' 9 (v := ?_) rfl (by kernel_rfl) (by kernel_rfl) (by kernel_rfl) (fun _ _ _ h => h) (by rfl) ?_ ?_
          rotate_left
          · (intro W hSw; have hcW := hSw.cells; try simp only [World.size_drew, World.cell?_drew] at hcW
             go_simp; first | done | rfl)
          try simp only [Act.put, List.setIfInBounds_toArray, List.set_cons_zero, List.set_cons_succ]
          -- 10 Op.move (Operand.tmp 26)
          refine wpMono_take' 10 (v := ?_) rfl (by kernel_rfl) (by kernel_rfl) (by kernel_rfl) (fun _ _ _ h => h) (by rfl) ?_ ?_
          rotate_left
          · (intro W hSw; have hcW := hSw.cells; try simp only [World.size_drew, World.cell?_drew] at hcW
             go_simp; first | done | rfl)
          try simp only [Act.put, List.setIfInBounds_toArray, List.set_cons_zero, List.set_cons_succ]
          -- 11 Op.fieldAddr 38 (Operand.tmp 6) 0
          refine wpMono_skip' 11 rfl (by kernel_rfl) (by kernel_rfl) (by kernel_rfl) (fun _ _ _ h => h) (by rfl) ?_
          try simp only [Act.put, List.setIfInBounds_toArray, List.set_cons_zero, List.set_cons_succ]
          -- 12 Op.load 9 (Operand.tmp 28)
          refine wpMono_skip' 12 rfl (by kernel_rfl) (by kernel_rfl) (by kernel_rfl) (fun _ _ _ h => h) (by rfl) ?_
          try simp only [Act.put, List.setIfInBounds_toArray, List.set_cons_zero, List.set_cons_succ]
          -- 13 Op.move (Operand.tmp 0)
          refine wpMono_skip' 13 rfl (by kernel_rfl) (by kernel_rfl) (by kernel_rfl) (fun _ _ _ h => h) (by rfl) ?_
          try simp only [Act.put, List.setIfInBounds_toArray, List.set_cons_zero, List.set_cons_succ]
          -- 14 Op.move (Operand.tmp 5)
          refine wpMono_skip' 14 rfl (by kernel_rfl) (by kernel_rfl) (by kernel_rfl) (fun _ _ _ h => h) (by rfl) ?_
          try simp only [Act.put, List.setIfInBounds_toArray, List.set_cons_zero, List.set_cons_succ]
          -- 15 Op.binOp BinOp.sub 3 (Operand.tmp 31) (Operand.const (Value.int IntKind.i64 1)) 3
          refine wpMono_skip' 15 rfl (by kernel_rfl) (by kernel_rfl) (by kernel_rfl) (fun _ _ _ h => h) (by rfl) ?_
          try simp only [Act.put, List.setIfInBounds_toArray, List.set_cons_zero, List.set_cons_succ]
          -- 16 Op.indexAddr 35 (Operand.tmp 30) (Operand.tmp 32)
          refine wpMono_skip' 16 rfl (by kernel_rfl) (by kernel_rfl) (by kernel_rfl) (fun _ _ _ h => h) (by rfl) ?_
          try simp only [Act.put, List.setIfInBounds_toArray, List.set_cons_zero, List.set_cons_succ]
          -- 17 Op.fieldAddr 38 (Operand.tmp 33) 0
          refine wpMono_skip' 17 rfl (by kernel_rfl) (by kernel_rfl) (by kernel_rfl) (fun _ _ _ h => h) (by rfl) ?_
          try simp only [Act.put, List.setIfInBounds_toArray, List.set_cons_zero, List.set_cons_succ]
          -- 18 Op.load 9 (Operand.tmp 34)
          refine wpMono_skip' 18 rfl (by kernel_rfl) (by kernel_rfl) (by kernel_rfl) (fun _ _ _ h => h) (by rfl) ?_
          try simp only [Act.put, List.setIfInBounds_toArray, List.set_cons_zero, List.set_cons_succ]
          -- 19 Op.binOp BinOp.leq 9 (Operand.tmp 29) (Operand.tmp 35) 9
          refine wpMono_skip' 19 rfl (by kernel_rfl) (by kernel_rfl) (by kernel_rfl) (fun _ _ _ h => h) (by rfl) ?_
          try simp only [Act.put, List.setIfInBounds_toArray, List.set_cons_zero, List.set_cons_succ]
          -- 20 Op.pick (Operand.tmp 27) (Operand.tmp 36) (Operand.const (Value.bool false))
          refine wpMono_take' 20 (v := ?_) rfl (by kernel_rfl) (by kernel_rfl) (by kernel_rfl) (fun _ _ _ h => h) (by rfl) ?_ ?_
          rotate_left
          · (intro W hSw; have hcW := hSw.cells; try simp only [World.size_drew, World.cell?_drew] at hcW
             go_simp; first | done | rfl)
          try simp only [Act.put, List.setIfInBounds_toArray, List.set_cons_zero, List.set_cons_succ]
          -- 21 Op.pick (Operand.tmp 24) (Operand.const (Value.bool true)) (Operand.tmp 37)
          refine wpMono_take' 21 (v := ?_) rfl (by kernel_rfl) (by kernel_rfl) (by kernel_rfl) (fun _ _ _ h => h) (by rfl) ?_ ?_
          rotate_left
          · (intro W hSw; have hcW := hSw.cells; try simp only [World.size_drew, World.cell?_drew] at hcW
             go_simp; first | done | rfl)
          try simp only [Act.put, List.setIfInBounds_toArray, List.set_cons_zero, List.set_cons_succ]
          refine wpMono_done (by kernel_rfl) ?_ _
          have hst := Hstep.out (fun p h => absurd h (by omega)) Hc.out
          have Hst := Lib.hid hst
          clear hst
          go_wp2_with fail
          refine wp_region_mono (· = w.heap.size) (by kernel_rfl) ?_
          -- 0 Op.move (Operand.tmp 4)
          refine wpMono_take' 0 (v := ?_) rfl (by kernel_rfl) (by kernel_rfl) (by kernel_rfl) (fun _ _ _ h => h) (by rfl) ?_ ?_
          rotate_left
          · (intro W hSw; have z0 := (hSw.cell 0 q2 (fun h => absurd (h : wr.heap.size = w.heap.size) (by omega))).trans q0; have z1 := (hSw.cell 1 q2 (fun h => absurd (h : wr.heap.size = w.heap.size) (by omega))).trans q1; have z2 := (hSw.cell 0 q4 (fun h => absurd (h : w.heap.size + 1 = w.heap.size) (by omega))).trans q3
             go_simp; first | done | rfl)
          try simp only [Act.put, List.setIfInBounds_toArray, List.set_cons_zero, List.set_cons_succ]
          -- 1 Op.nilCheck (Operand.tmp 40)
          refine wpMono_take' 1 (v := ?_) rfl (by kernel_rfl) (by kernel_rfl) (by kernel_rfl) (fun _ _ _ h => h) (by rfl) ?_ ?_
          rotate_left
          · (intro W hSw; have z0 := (hSw.cell 0 q2 (fun h => absurd (h : wr.heap.size = w.heap.size) (by omega))).trans q0; have z1 := (hSw.cell 1 q2 (fun h => absurd (h : wr.heap.size = w.heap.size) (by omega))).trans q1; have z2 := (hSw.cell 0 q4 (fun h => absurd (h : w.heap.size + 1 = w.heap.size) (by omega))).trans q3
             go_simp; first | done | rfl)
          try simp only [Act.put, List.setIfInBounds_toArray, List.set_cons_zero, List.set_cons_succ]
          -- 2 Op.fieldAddr 63 (Operand.tmp 41) 0
          refine wpMono_take' 2 (v := ?_) rfl (by kernel_rfl) (by kernel_rfl) (by kernel_rfl) (fun _ _ _ h => h) (by rfl) ?_ ?_
          rotate_left
          · (intro W hSw; have z0 := (hSw.cell 0 q2 (fun h => absurd (h : wr.heap.size = w.heap.size) (by omega))).trans q0; have z1 := (hSw.cell 1 q2 (fun h => absurd (h : wr.heap.size = w.heap.size) (by omega))).trans q1; have z2 := (hSw.cell 0 q4 (fun h => absurd (h : w.heap.size + 1 = w.heap.size) (by omega))).trans q3
             go_simp; first | done | rfl)
          try simp only [Act.put, List.setIfInBounds_toArray, List.set_cons_zero, List.set_cons_succ]
          -- 3 Op.load 61 (Operand.tmp 42)
          refine wpMono_take' 3 (v := ?_) rfl (by kernel_rfl) (by kernel_rfl) (by kernel_rfl) (fun _ _ _ h => h) (by rfl) ?_ ?_
          rotate_left
          · (intro W hSw; have z0 := (hSw.cell 0 q2 (fun h => absurd (h : wr.heap.size = w.heap.size) (by omega))).trans q0; have z1 := (hSw.cell 1 q2 (fun h => absurd (h : wr.heap.size = w.heap.size) (by omega))).trans q1; have z2 := (hSw.cell 0 q4 (fun h => absurd (h : w.heap.size + 1 = w.heap.size) (by omega))).trans q3
             go_simp; first | done | rfl)
          try simp only [Act.put, List.setIfInBounds_toArray, List.set_cons_zero, List.set_cons_succ]
          -- 4 Op.fieldAddr 38 (Operand.tmp 6) 0
          refine wpMono_take' 4 (v := ?_) rfl (by kernel_rfl) (by kernel_rfl) (by kernel_rfl) (fun _ _ _ h => h) (by rfl) ?_ ?_
          rotate_left
          · (intro W hSw; have z0 := (hSw.cell 0 q2 (fun h => absurd (h : wr.heap.size = w.heap.size) (by omega))).trans q0; have z1 := (hSw.cell 1 q2 (fun h => absurd (h : wr.heap.size = w.heap.size) (by omega))).trans q1; have z2 := (hSw.cell 0 q4 (fun h => absurd (h : w.heap.size + 1 = w.heap.size) (by omega))).trans q3
             go_simp; first | done | rfl)
          try simp only [Act.put, List.setIfInBounds_toArray, List.set_cons_zero, List.set_cons_succ]
          -- 5 Op.load 9 (Operand.tmp 44)
          refine wpMono_take' 5 (v := ?_) rfl (by kernel_rfl) (by kernel_rfl) (by kernel_rfl) (fun _ _ _ h => h) (by rfl) ?_ ?_
          rotate_left
          · (intro W hSw; have z0 := (hSw.cell 0 q2 (fun h => absurd (h : wr.heap.size = w.heap.size) (by omega))).trans q0; have z1 := (hSw.cell 1 q2 (fun h => absurd (h : wr.heap.size = w.heap.size) (by omega))).trans q1; have z2 := (hSw.cell 0 q4 (fun h => absurd (h : w.heap.size + 1 = w.heap.size) (by omega))).trans q3
             go_simp; first | done | rfl)
          try simp only [Act.put, List.setIfInBounds_toArray, List.set_cons_zero, List.set_cons_succ]
          -- 6 Op.fieldAddr 38 (Operand.tmp 6) 1
          refine wpMono_take' 6 (v := ?_) rfl (by kernel_rfl) (by kernel_rfl) (by kernel_rfl) (fun _ _ _ h => h) (by rfl) ?_ ?_
          rotate_left
          · (intro W hSw; have z0 := (hSw.cell 0 q2 (fun h => absurd (h : wr.heap.size = w.heap.size) (by omega))).trans q0; have z1 := (hSw.cell 1 q2 (fun h => absurd (h : wr.heap.size = w.heap.size) (by omega))).trans q1; have z2 := (hSw.cell 0 q4 (fun h => absurd (h : w.heap.size + 1 = w.heap.size) (by omega))).trans q3
             go_simp; first | done | rfl)
          try simp only [Act.put, List.setIfInBounds_toArray, List.set_cons_zero, List.set_cons_succ]
          -- 7 Op.load 3 (Operand.tmp 46)
          refine wpMono_take' 7 (v := ?_) rfl (by kernel_rfl) (by kernel_rfl) (by kernel_rfl) (fun _ _ _ h => h) (by rfl) ?_ ?_
          rotate_left
          · (intro W hSw; have z0 := (hSw.cell 0 q2 (fun h => absurd (h : wr.heap.size = w.heap.size) (by omega))).trans q0; have z1 := (hSw.cell 1 q2 (fun h => absurd (h : wr.heap.size = w.heap.size) (by omega))).trans q1; have z2 := (hSw.cell 0 q4 (fun h => absurd (h : w.heap.size + 1 = w.heap.size) (by omega))).trans q3
             go_simp; first | done | rfl)
          try simp only [Act.put, List.setIfInBounds_toArray, List.set_cons_zero, List.set_cons_succ]
          -- EFFECT 8 Op.mapUpdate 61 (Operand.tmp 43) (Operand.tmp 45) (Operand.tmp 47)
          refine wpMono_one' 8 (by kernel_rfl) rfl (by rfl) (fun K hK => ?_)
          obtain ⟨w3, hrun, hm3, hk3⟩ := (HT3.out.keeps (X := nobody) .drew (fun h => h) (fun h => h)).2.put (u := xu) (by unfold maxLen; omega) (wf_right (good_put HG.out Hc.out).2) hlen
          go_simp
          refine hK.out _ _ ?_ ?_
          · exact hk3
          clear hK K
          try simp only [Act.put]
          refine wpMono_done (by kernel_rfl) ?_ _
          have hT4 : Tab w3 (w.heap.size + 1) w.heap.size _ := ⟨(HT3.out.1.drew).keeps hk3 (by omega), hm3⟩
          have hb4 := below_kept (hb3.out.drew) hk3 (fun i hi => by omega)
          have Hfin := Lib.hid (And.intro hT4 hb4)
          clear hT4 hb4 hm3 hk3 hrun
          go_wp2
          go_roundw
          case rel => exact ⟨0 + 1, by omega, by go_num, Hst.out.1, by rw [← Hst.out.2]; exact Hfin.out.1, Hfin.out.2⟩
          case measure => simp [intOf]; omega
      · have Hc := Lib.hid hc
        clear hc
        have hng : ¬ GoodL L := fun hL => Hc.out (Hnext.out hL).1
        have Hng := Lib.hid hng
        clear hng hleq
        go_wp2_with fail
        refine wp_region_mono nobody (by kernel_rfl) ?_
        -- 0 Op.move (Operand.tmp 4)
        refine wpMono_take' 0 (v := ?_) rfl (by kernel_rfl) (by kernel_rfl) (by kernel_rfl) (fun _ _ _ h => h) (by rfl) ?_ ?_
        rotate_left
        · (intro W hSw; have hcW := hSw.cells; try simp only [World.size_drew, World.cell?_drew] at hcW
           go_simp; first | done | rfl)
        try simp only [Act.put, List.setIfInBounds_toArray, List.set_cons_zero, List.set_cons_succ]
        -- 1 Op.fieldAddr 38 (Operand.tmp 6) 0
        refine wpMono_take' 1 (v := ?_) rfl (by kernel_rfl) (by kernel_rfl) (by kernel_rfl) (fun _ _ _ h => h) (by rfl) ?_ ?_
        rotate_left
        · (intro W hSw; have hcW := hSw.cells; try simp only [World.size_drew, World.cell?_drew] at hcW
           go_simp; first | done | rfl)
        try simp only [Act.put, List.setIfInBounds_toArray, List.set_cons_zero, List.set_cons_succ]
        -- 2 Op.load 9 (Operand.tmp 18)
        refine wpMono_take' 2 (v := ?_) rfl (by kernel_rfl) (by kernel_rfl) (by kernel_rfl) (fun _ _ _ h => h) (by rfl) ?_ ?_
        rotate_left
        · (intro W hSw; have hcW := hSw.cells; try simp only [World.size_drew, World.cell?_drew] at hcW
           go_simp; first | done | rfl)
        try simp only [Act.put, List.setIfInBounds_toArray, List.set_cons_zero, List.set_cons_succ]
        -- 3 Op.fieldAddr 38 (Operand.tmp 6) 1
        refine wpMono_take' 3 (v := ?_) rfl (by kernel_rfl) (by kernel_rfl) (by kernel_rfl) (fun _ _ _ h => h) (by rfl) ?_ ?_
        rotate_left
        · (intro W hSw; have hcW := hSw.cells; try simp only [World.size_drew, World.cell?_drew] at hcW
           go_simp; first | done | rfl)
        try simp only [Act.put, List.setIfInBounds_toArray, List.set_cons_zero, List.set_cons_succ]
        -- 4 Op.load 3 (Operand.tmp 20)
        refine wpMono_take' 4 (v := ?_) rfl (by kernel_rfl) (by kernel_rfl) (by kernel_rfl) (fun _ _ _ h => h) (by rfl) ?_ ?_
        rotate_left
        · (intro W hSw; have hcW := hSw.cells; try simp only [World.size_drew, World.cell?_drew] at hcW
           go_simp; first | done | rfl)
        try simp only [Act.put, List.setIfInBounds_toArray, List.set_cons_zero, List.set_cons_succ]
        -- EFFECT 5 Op.call { callee := Callee.value (Operand.func 22), args := #[Operand.tmp 17, Operand.tmp 19, Operand.tmp 21], argTypes := #[26, 9, 3] }
        refine wpMono_one' 5 (by kernel_rfl) rfl (by rfl) (fun K hK => ?_)
        go_simp
        refine (can_any _ _ _ _ _ _ (HT2.out.keeps (X := nobody) .drew (fun h => h) (fun h => h)) (by unfold maxLen; omega) hlen).mono ?_
        rintro e w2 ⟨v, rfl, he, hb2⟩
        obtain ⟨q, rfl⟩ := EO.form he Hc.out
        have hb2' := below_ofDrew hb2
        have hb3 := Lib.hid (below_step Hbw.out (below_step Hwx.out hb2'))
        clear he
        refine hK.out _ _ ?_ ?_
        · exact .of_below hb2
        clear hK K
        try simp only [Act.put, List.setIfInBounds_toArray, List.set_cons_zero, List.set_cons_succ]
        -- 6 Op.binOp BinOp.neq 28 (Operand.tmp 22) (Operand.const Value.nilIface) 28
        refine wpMono_take' 6 (v := ?_) rfl (by kernel_rfl) (by kernel_rfl) (by kernel_rfl) (fun _ _ _ h => h) (by rfl) ?_ ?_
        rotate_left
        · (intro W hSw; have hcW := hSw.cells; try simp only [World.size_drew, World.cell?_drew] at hcW
           go_simp; first | done | rfl)
        try simp only [Act.put, List.setIfInBounds_toArray, List.set_cons_zero, List.set_cons_succ]
        -- 7 Op.move (Operand.tmp 23)
        refine wpMono_take' 7 (v := ?_) rfl (by kernel_rfl) (by kernel_rfl) (by kernel_rfl) (fun _ _ _ h => h) (by rfl) ?_ ?_
        rotate_left
        · (intro W hSw; have hcW := hSw.cells; try simp only [World.size_drew, World.cell?_drew] at hcW
           go_simp; first | done | rfl)
        try simp only [Act.put, List.setIfInBounds_toArray, List.set_cons_zero, List.set_cons_succ]
        -- 8 Op.move (Operand.tmp 5)
        refine wpMono_skip' 8 rfl (by kernel_rfl) (by kernel_rfl) (by kernel_rfl) (fun _ _ _ h => h) (by rfl) ?_
        try simp only [Act.put, List.setIfInBounds_toArray, List.set_cons_zero, List.set_cons_succ]
        -- 9 Op.binOp BinOp.gtr 3 (Operand.tmp 25) (Operand.const (Value.int IntKind.i64 0)) 3
        refine wpMono_skip' 9 rfl (by kernel_rfl) (by kernel_rfl) (by kernel_rfl) (fun _ _ _ h => h) (by rfl) ?_
        try simp only [Act.put, List.setIfInBounds_toArray, List.set_cons_zero, List.set_cons_succ]
        -- 10 Op.move (Operand.tmp 26)
        refine wpMono_skip' 10 rfl (by kernel_rfl) (by kernel_rfl) (by kernel_rfl) (fun _ _ _ h => h) (by rfl) ?_
        try simp only [Act.put, List.setIfInBounds_toArray, List.set_cons_zero, List.set_cons_succ]
        -- 11 Op.fieldAddr 38 (Operand.tmp 6) 0
        refine wpMono_skip' 11 rfl (by kernel_rfl) (by kernel_rfl) (by kernel_rfl) (fun _ _ _ h => h) (by rfl) ?_
        try simp only [Act.put, List.setIfInBounds_toArray, List.set_cons_zero, List.set_cons_succ]
        -- 12 Op.load 9 (Operand.tmp 28)
        refine wpMono_skip' 12 rfl (by kernel_rfl) (by kernel_rfl) (by kernel_rfl) (fun _ _ _ h => h) (by rfl) ?_
        try simp only [Act.put, List.setIfInBounds_toArray, List.set_cons_zero, List.set_cons_succ]
        -- 13 Op.move (Operand.tmp 0)
        refine wpMono_skip' 13 rfl (by kernel_rfl) (by kernel_rfl) (by kernel_rfl) (fun _ _ _ h => h) (by rfl) ?_
        try simp only [Act.put, List.setIfInBounds_toArray, List.set_cons_zero, List.set_cons_succ]
        -- 14 Op.move (Operand.tmp 5)
        refine wpMono_skip' 14 rfl (by kernel_rfl) (by kernel_rfl) (by kernel_rfl) (fun _ _ _ h => h) (by rfl) ?_
        try simp only [Act.put, List.setIfInBounds_toArray, List.set_cons_zero, List.set_cons_succ]
        -- 15 Op.binOp BinOp.sub 3 (Operand.tmp 31) (Operand.const (Value.int IntKind.i64 1)) 3
        refine wpMono_skip' 15 rfl (by kernel_rfl) (by kernel_rfl) (by kernel_rfl) (fun _ _ _ h => h) (by rfl) ?_
        try simp only [Act.put, List.setIfInBounds_toArray, List.set_cons_zero, List.set_cons_succ]
        -- 16 Op.indexAddr 35 (Operand.tmp 30) (Operand.tmp 32)
        refine wpMono_skip' 16 rfl (by kernel_rfl) (by kernel_rfl) (by kernel_rfl) (fun _ _ _ h => h) (by rfl) ?_
        try simp only [Act.put, List.setIfInBounds_toArray, List.set_cons_zero, List.set_cons_succ]
        -- 17 Op.fieldAddr 38 (Operand.tmp 33) 0
        refine wpMono_skip' 17 rfl (by kernel_rfl) (by kernel_rfl) (by kernel_rfl) (fun _ _ _ h => h) (by rfl) ?_
        try simp only [Act.put, List.setIfInBounds_toArray, List.set_cons_zero, List.set_cons_succ]
        -- 18 Op.load 9 (Operand.tmp 34)
        refine wpMono_skip' 18 rfl (by kernel_rfl) (by kernel_rfl) (by kernel_rfl) (fun _ _ _ h => h) (by rfl) ?_
        try simp only [Act.put, List.setIfInBounds_toArray, List.set_cons_zero, List.set_cons_succ]
        -- 19 Op.binOp BinOp.leq 9 (Operand.tmp 29) (Operand.tmp 35) 9
        refine wpMono_skip' 19 rfl (by kernel_rfl) (by kernel_rfl) (by kernel_rfl) (fun _ _ _ h => h) (by rfl) ?_
        try simp only [Act.put, List.setIfInBounds_toArray, List.set_cons_zero, List.set_cons_succ]
        -- 20 Op.pick (Operand.tmp 27) (Operand.tmp 36) (Operand.const (Value.bool false))
        refine wpMono_skip' 20 rfl (by kernel_rfl) (by kernel_rfl) (by kernel_rfl) (fun _ _ _ h => h) (by rfl) ?_
        try simp only [Act.put, List.setIfInBounds_toArray, List.set_cons_zero, List.set_cons_succ]
        -- 21 Op.pick (Operand.tmp 24) (Operand.const (Value.bool true)) (Operand.tmp 37)
        refine wpMono_take' 21 (v := ?_) rfl (by kernel_rfl) (by kernel_rfl) (by kernel_rfl) (fun _ _ _ h => h) (by rfl) ?_ ?_
        rotate_left
        · (intro W hSw; have hcW := hSw.cells; try simp only [World.size_drew, World.cell?_drew] at hcW
           go_simp; first | done | rfl)
        try simp only [Act.put, List.setIfInBounds_toArray, List.set_cons_zero, List.set_cons_succ]
        refine wpMono_done (by kernel_rfl) ?_ _
        go_wp2_with fail
        refine (bad_any _ _).mono ?_
        rintro e w4 ⟨v4, rfl, e1, e2, e3, e4⟩
        have HH := Lib.hid (.inr ⟨Hng.out, v4, rfl, e1, e2, below_step hb3.out e3⟩ : NewEnd L w (.returned (.tuple #[.pointer none, v4])) w4)
        clear e1 e2 e3 e4
        go_wp2
        go_ret2
        exact HH.out
    · obtain rfl : k = len := by omega
      have ht : L.take k = L := List.take_of_length_le (by rw [H.out.1]; exact Nat.le_refl _)
      rw [ht] at hG hT
      have HH := Lib.hid (.inl ⟨hG, _, _, rfl, by omega, by omega, hT, hbw⟩ : NewEnd L w (.returned (.tuple #[.pointer (some ⟨(w.heap.size + 1), 0, none⟩), .nilIface])) wr)
      clear hG hT hbw ht
      go_wp2
      go_ret2
      exact HH.out
end Go.Proofs.Ytojmnkcncjconaa.new
