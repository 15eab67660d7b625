/- The walk of the document's Trim. -/
import Derived.Test.YtmclmefgddomfaaRefAddF
namespace Go.Proofs.Ytmclmefgddomfaa.feed
open Go.RowKit Go.Proofs.Ytmclmefgddomfaa.base Go.Proofs.Ytmclmefgddomfaa.rowe Go.Proofs.Ytmclmefgddomfaa.err Go.Proofs.Ytmclmefgddomfaa.wire Go.Proofs.Ytmclmefgddomfaa.monoj

theorem isB_at' {rg nn q : Nat} (h1 : q < nn) (h2 : ¬ q + 1 = rg) : isB rg nn ((q : Nat) + 1 : Int) = true := by
  unfold isB
  simp
  omega
def Above (rg nn bs : Nat) (K : List Int) (n : Nat) : Prop := ∀ j, j < n → ∀ q, q < nn → q + 1 ≠ rg → ((bs + j : Nat) : Int) < K.getD q 0
def TrimRR (S : Nat → Prop) (g rg nn bs : Nat) (L : List Wr) (K : List Int) (w : World) (e : Ending) (w' : World) : Prop :=
  ∃ n : Nat, e = .returned (.int .i64 n) ∧ n ≤ L.length ∧ Above rg nn bs K n ∧ (n = L.length ∨ ∃ q, q < nn ∧ q + 1 ≠ rg ∧ K.getD q 0 ≤ ((bs + n : Nat) : Int)) ∧ RefS w' S g rg nn (bs + n) (L.drop n) K ∧ Keeps S w w'
theorem RL.drop1 {w : World} {S : Nat → Prop} {lo c b off : Nat} {L : List Wr} (h : RL w S lo (some ⟨b, off, none⟩) c L) (h0 : 0 < L.length) : RL w S lo (if c = 1 then some ⟨b, off, none⟩ else some ⟨b, off + 10, none⟩) (c - 1) (L.drop 1) := by
  have hcap := h.cap
  by_cases h1 : L.length = 1
  · have hd : L.drop 1 = [] := List.drop_eq_nil_of_le (by omega)
    rw [hd]
    exact ⟨⟨by simp, fun h => absurd h (by simp)⟩, by simp, by simp, fun _ _ _ h => absurd h (by simp), by simp, by simp⟩
  · rw [if_neg (by omega)]
    have hr := Reads.dropAt Wr.cells Wr.len h.row (k := 1) (by omega)
    refine ⟨by simpa using hr, by simp; omega, by have := h.few; simp; omega, fun b' off' e _ => ?_, fun x hx => h.nums x (List.mem_of_mem_drop hx), fun x hx => h.numS x (List.mem_of_mem_drop hx)⟩
    injection e with e
    injection e with e1 _ _
    subst e1
    exact h.blkS b off rfl h0
theorem RefF.step {S : Nat → Prop} {w : World} {g rg nn bs : Nat} {L' : List Wr} {K : List Int} {A A2 : Option Addr} {c k0 ck c2 : Nat} (h : RefF w S g rg nn bs L' K A c k0 ck) (h0 : 0 < L'.length) (hr : RL w S (k0 + 1) A2 c2 (L'.drop 1)) :
    RefF ((w.setCell ⟨g, 3, none⟩ (.slice A2 (L'.drop 1).length c2)).setCell ⟨g, 2, none⟩ (.int .i64 (bs + 1 : Nat))) S g rg nn (bs + 1) (L'.drop 1) K A2 c2 k0 ck := by
  have hlt := h.k0lt
  have hk : Keeps (· = g) w ((w.setCell ⟨g, 3, none⟩ (.slice A2 (L'.drop 1).length c2)).setCell ⟨g, 2, none⟩ (.int .i64 (bs + 1 : Nat))) := (Keeps.set1 w g 3 _).trans (Keeps.set1 _ g 2 _)
  refine ⟨?_, hr.keeps hk (fun i _ hi e => by omega), ow_keeps' h.know hk (fun i hi e => by injection hi with hi; simp at hi; omega), h.inG, h.inK, h.klen, h.r0, h.r1, h.n1, by have := h.last; simp; omega, fun i hi => by have := h.small i hi; simpa using this⟩
  have := (h.blk.set_ 3 (.slice A2 (L'.drop 1).length c2)).set_ 2 (.int .i64 (bs + 1 : Nat))
  simpa using this
set_option maxRecDepth 100000 in
set_option maxHeartbeats 1000000 in
theorem trim_refF {S : Nat → Prop} {w : World} {g rg nn bs : Nat} {L : List Wr} {K : List Int} (h : RefS w S g rg nn bs L K) : Calls Try.prog 24 #[.pointer (some ⟨g, 0, none⟩)] w (TrimRR S g rg nn bs L K w) := by
  obtain ⟨L', A, c, k0, ck, hLL, hf⟩ := h
  have hn1 := hf.n1
  have hlast := hf.last
  have hL2 : L.length = L'.length := by rw [← hLL, List.length_map]
  have HF := Lib.hid hf
  have HLL := Lib.hid hLL
  clear hf hLL
  go_enter Try.func24, Try.ntmps24
  go_wp2_with fail
  go_loopw [3, 4] (fun s _ wr' => ∃ n : Nat, s = .int .i64 n ∧ n ≤ L'.length ∧ Above rg nn bs K n ∧ (∃ A c, RefF wr' S g rg nn (bs + n) (L'.drop n) K A c k0 ck) ∧ Keeps S w wr') (fun s _ _ => L'.length - (intOf s).toNat)
  case atStart => exact ⟨0, rfl, by omega, fun j hj => by omega, ⟨A, c, HF.out⟩, .refl _ _⟩
  case round =>
    clear HF
    obtain ⟨n, rfl, hnl, hab, ⟨A, c, hf⟩, hk⟩ := hrel
    have hgl := hf.blk.lt
    obtain ⟨m, hm⟩ : ∃ m, (L'.drop n).length = m := ⟨_, rfl⟩
    have hmn : n + m = L'.length := by rw [← hm]; simp; omega
    have c3 : wr.cell? ⟨g, 3, none⟩ = _ := hf.blk.cell 3
    rw [hm] at c3
    simp at c3
    have HF := Lib.hid hf
    have HK := Lib.hid hk
    have HA := Lib.hid hab
    have Hm := Lib.hid hm
    clear hf hk hab hm
    by_cases hm0 : 0 < m
    · have d1 : decide ((0 : Int) < (m : Int)) = true := by simp; omega
      go_wp2_with fail
      obtain ⟨wo, rfl⟩ : ∃ wo : World, wo = wr := ⟨_, rfl⟩
      go_loopw [4] (fun s wr' => ∃ p : Nat, s = .int .i64 ((p : Nat) + 1 : Int) ∧ p ≤ nn ∧ (∀ q, q < p → q + 1 ≠ rg → ((bs + n : Nat) : Int) < K.getD q 0) ∧ RefF wr' S g rg nn (bs + n) (L'.drop n) K A c k0 ck ∧ Keeps S w wr') (fun s _ => nn + 1 - (intOf s).toNat)
      case atStart => exact ⟨0, rfl, by omega, fun q hq => by omega, HF.out, HK.out⟩
      case round =>
        clear HF HK c3
        obtain ⟨p, rfl, hp, hall, hf, hk⟩ := hrel
        have hgl := hf.blk.lt
        have c1 : wr.cell? ⟨g, 1, none⟩ = _ := hf.blk.cell 1
        simp at c1
        have HF := Lib.hid hf
        have HK := Lib.hid hk
        have Hall := Lib.hid hall
        have HS := Lib.hid (show RefS wr.drew S g rg nn (bs + n) ((L'.drop n).map Wr.abs) K from ⟨_, A, c, k0, ck, rfl, hf.keeps (X := nobody) Keeps.drew (fun _ _ h => h)⟩)
        by_cases hpn : p < nn
        · have d2 : decide (((p : Nat) : Int) + 1 ≤ (nn : Int)) = true := by simp; omega
          cases hi : isB rg nn ((p : Nat) + 1 : Int) with
          | true =>
            have hrg : p + 1 ≠ rg := by obtain ⟨q, hq, _, h⟩ := is_at hi; omega
            have hkl := hf.klen
            have hp16 : p < 16 := by omega
            have ck0 := (Reads.of_own hf.know).int (k := p) (by omega)
            rw [Nat.zero_add] at ck0
            have c2 : wr.cell? ⟨g, 2, none⟩ = _ := hf.blk.cell 2
            have c4 : wr.cell? ⟨g, 4, none⟩ = _ := hf.blk.cell 4
            simp at c2 c4
            have hk0l := hf.small k0 hf.inK
            have hpk : (p : Int) < (nn : Int) := by omega
            have hpk2 : p < nn := hpn
            have hwp := IntWalk.i64_in (p : Int) (by omega)
            obtain ⟨y, hy⟩ : ∃ y, K.getD p 0 = y := ⟨_, rfl⟩
            rw [hy] at ck0
            have Hy := Lib.hid hy
            have Hi := Lib.hid hi
            clear hf hk hall hy hi
            cases dk : decide (y ≤ (bs : Int) + (n : Int)) with
            | true =>
              go_wp2_with fail
              refine wp_region_mono nobody (by kernel_rfl) ?_
              -- 0 Op.move (Operand.tmp 0)
              refine wpMono_take' 0 (v := ?_) rfl (by kernel_rfl) (by kernel_rfl) (by kernel_rfl) (fun _ _ _ h => h) (by rfl) ?_ ?_
              rotate_left
              · (intro W hSw; have hcW := hSw.cells; try simp only [World.size_drew, World.cell?_drew] at hcW
                 go_simp; first | done | rfl)
              try simp only [Act.put, List.setIfInBounds_toArray, List.set_cons_zero, List.set_cons_succ]
              -- 1 Op.move (Operand.tmp 4)
              refine wpMono_take' 1 (v := ?_) rfl (by kernel_rfl) (by kernel_rfl) (by kernel_rfl) (fun _ _ _ h => h) (by rfl) ?_ ?_
              rotate_left
              · (intro W hSw; have hcW := hSw.cells; try simp only [World.size_drew, World.cell?_drew] at hcW
                 go_simp; first | done | rfl)
              try simp only [Act.put, List.setIfInBounds_toArray, List.set_cons_zero, List.set_cons_succ]
              -- EFFECT 2 Op.call { callee := Callee.value (Operand.func 27), args := #[Operand.tmp 19, Operand.tmp 20], argTypes := #[50, 3] }
              refine wpMono_one' 2 (by kernel_rfl) rfl (by rfl) (fun K hK => ?_)
              go_simp
              refine (is_ref ((p : Nat) + 1 : Int) HS.out).mono ?_
              rintro e w5 ⟨rfl, rfl⟩
              rw [Hi.out]
              refine hK.out _ _ ?_ ?_
              · exact .refl _ _
              clear hK K
              try simp only [Act.put, List.setIfInBounds_toArray, List.set_cons_zero, List.set_cons_succ]
              -- 3 Op.move (Operand.tmp 21)
              refine wpMono_take' 3 (v := ?_) rfl (by kernel_rfl) (by kernel_rfl) (by kernel_rfl) (fun _ _ _ h => h) (by rfl) ?_ ?_
              rotate_left
              · (intro W hSw; have hcW := hSw.cells; try simp only [World.size_drew, World.cell?_drew] at hcW
                 go_simp; first | done | rfl)
              try simp only [Act.put, List.setIfInBounds_toArray, List.set_cons_zero, List.set_cons_succ]
              -- 4 Op.move (Operand.tmp 0)
              refine wpMono_take' 4 (v := ?_) rfl (by kernel_rfl) (by kernel_rfl) (by kernel_rfl) (fun _ _ _ h => h) (by rfl) ?_ ?_
              rotate_left
              · (intro W hSw; have hcW := hSw.cells; try simp only [World.size_drew, World.cell?_drew] at hcW
                 go_simp; first | done | rfl)
              try simp only [Act.put, List.setIfInBounds_toArray, List.set_cons_zero, List.set_cons_succ]
              -- 5 Op.nilCheck (Operand.tmp 23)
              refine wpMono_take' 5 (v := ?_) rfl (by kernel_rfl) (by kernel_rfl) (by kernel_rfl) (fun _ _ _ h => h) (by rfl) ?_ ?_
              rotate_left
              · (intro W hSw; have hcW := hSw.cells; try simp only [World.size_drew, World.cell?_drew] at hcW
                 go_simp; first | done | rfl)
              try simp only [Act.put, List.setIfInBounds_toArray, List.set_cons_zero, List.set_cons_succ]
              -- 6 Op.fieldAddr 61 (Operand.tmp 24) 4
              refine wpMono_take' 6 (v := ?_) rfl (by kernel_rfl) (by kernel_rfl) (by kernel_rfl) (fun _ _ _ h => h) (by rfl) ?_ ?_
              rotate_left
              · (intro W hSw; have hcW := hSw.cells; try simp only [World.size_drew, World.cell?_drew] at hcW
                 go_simp; first | done | rfl)
              try simp only [Act.put, List.setIfInBounds_toArray, List.set_cons_zero, List.set_cons_succ]
              -- 7 Op.load 32 (Operand.tmp 25)
              refine wpMono_take' 7 (v := ?_) rfl (by kernel_rfl) (by kernel_rfl) (by kernel_rfl) (fun _ _ _ h => h) (by rfl) ?_ ?_
              rotate_left
              · (intro W hSw; have hcW := hSw.cells; try simp only [World.size_drew, World.cell?_drew] at hcW
                 go_simp; first | done | rfl)
              try simp only [Act.put, List.setIfInBounds_toArray, List.set_cons_zero, List.set_cons_succ]
              -- 8 Op.move (Operand.tmp 4)
              refine wpMono_take' 8 (v := ?_) rfl (by kernel_rfl) (by kernel_rfl) (by kernel_rfl) (fun _ _ _ h => h) (by rfl) ?_ ?_
              rotate_left
              · (intro W hSw; have hcW := hSw.cells; try simp only [World.size_drew, World.cell?_drew] at hcW
                 go_simp; first | done | rfl)
              try simp only [Act.put, List.setIfInBounds_toArray, List.set_cons_zero, List.set_cons_succ]
              -- 9 Op.binOp BinOp.sub 3 (Operand.tmp 27) (Operand.const (Value.int IntKind.i64 1)) 3
              refine wpMono_take' 9 (v := ?_) rfl (by kernel_rfl) (by kernel_rfl) (by kernel_rfl) (fun _ _ _ h => h) (by rfl) ?_ ?_
              rotate_left
              · (intro W hSw; have hcW := hSw.cells; try simp only [World.size_drew, World.cell?_drew] at hcW
                 go_simp; first | done | rfl)
              try simp only [Act.put, List.setIfInBounds_toArray, List.set_cons_zero, List.set_cons_succ]
              -- 10 Op.indexAddr 32 (Operand.tmp 26) (Operand.tmp 28)
              refine wpMono_take' 10 (v := ?_) rfl (by kernel_rfl) (by kernel_rfl) (by kernel_rfl) (fun _ _ _ h => h) (by rfl) ?_ ?_
              rotate_left
              · (intro W hSw; have hcW := hSw.cells; try simp only [World.size_drew, World.cell?_drew] at hcW
                 go_simp; first | done | rfl)
              try simp only [Act.put, List.setIfInBounds_toArray, List.set_cons_zero, List.set_cons_succ]
              -- 11 Op.load 3 (Operand.tmp 29)
              refine wpMono_take' 11 (v := ?_) rfl (by kernel_rfl) (by kernel_rfl) (by kernel_rfl) (fun _ _ _ h => h) (by rfl) ?_ ?_
              rotate_left
              · (intro W hSw; have hcW := hSw.cells; try simp only [World.size_drew, World.cell?_drew] at hcW
                 go_simp; first | done | rfl)
              try simp only [Act.put, List.setIfInBounds_toArray, List.set_cons_zero, List.set_cons_succ]
              -- 12 Op.move (Operand.tmp 0)
              refine wpMono_take' 12 (v := ?_) rfl (by kernel_rfl) (by kernel_rfl) (by kernel_rfl) (fun _ _ _ h => h) (by rfl) ?_ ?_
              rotate_left
              · (intro W hSw; have hcW := hSw.cells; try simp only [World.size_drew, World.cell?_drew] at hcW
                 go_simp; first | done | rfl)
              try simp only [Act.put, List.setIfInBounds_toArray, List.set_cons_zero, List.set_cons_succ]
              -- 13 Op.nilCheck (Operand.tmp 31)
              refine wpMono_take' 13 (v := ?_) rfl (by kernel_rfl) (by kernel_rfl) (by kernel_rfl) (fun _ _ _ h => h) (by rfl) ?_ ?_
              rotate_left
              · (intro W hSw; have hcW := hSw.cells; try simp only [World.size_drew, World.cell?_drew] at hcW
                 go_simp; first | done | rfl)
              try simp only [Act.put, List.setIfInBounds_toArray, List.set_cons_zero, List.set_cons_succ]
              -- 14 Op.fieldAddr 61 (Operand.tmp 32) 2
              refine wpMono_take' 14 (v := ?_) rfl (by kernel_rfl) (by kernel_rfl) (by kernel_rfl) (fun _ _ _ h => h) (by rfl) ?_ ?_
              rotate_left
              · (intro W hSw; have hcW := hSw.cells; try simp only [World.size_drew, World.cell?_drew] at hcW
                 go_simp; first | done | rfl)
              try simp only [Act.put, List.setIfInBounds_toArray, List.set_cons_zero, List.set_cons_succ]
              -- 15 Op.load 3 (Operand.tmp 33)
              refine wpMono_take' 15 (v := ?_) rfl (by kernel_rfl) (by kernel_rfl) (by kernel_rfl) (fun _ _ _ h => h) (by rfl) ?_ ?_
              rotate_left
              · (intro W hSw; have hcW := hSw.cells; try simp only [World.size_drew, World.cell?_drew] at hcW
                 go_simp; first | done | rfl)
              try simp only [Act.put, List.setIfInBounds_toArray, List.set_cons_zero, List.set_cons_succ]
              -- 16 Op.binOp BinOp.leq 3 (Operand.tmp 30) (Operand.tmp 34) 3
              refine wpMono_take' 16 (v := ?_) rfl (by kernel_rfl) (by kernel_rfl) (by kernel_rfl) (fun _ _ _ h => h) (by rfl) ?_ ?_
              rotate_left
              · (intro W hSw; have hcW := hSw.cells; try simp only [World.size_drew, World.cell?_drew] at hcW
                 go_simp; first | done | rfl)
              try simp only [Act.put, List.setIfInBounds_toArray, List.set_cons_zero, List.set_cons_succ]
              -- 17 Op.pick (Operand.tmp 22) (Operand.tmp 35) (Operand.const (Value.bool false))
              refine wpMono_take' 17 (v := ?_) rfl (by kernel_rfl) (by kernel_rfl) (by kernel_rfl) (fun _ _ _ h => h) (by rfl) ?_ ?_
              rotate_left
              · (intro W hSw; have hcW := hSw.cells; try simp only [World.size_drew, World.cell?_drew] at hcW
                 go_simp; first | done | rfl)
              try simp only [Act.put, List.setIfInBounds_toArray, List.set_cons_zero, List.set_cons_succ]
              refine wpMono_done (by kernel_rfl) ?_ _
              have HR := Lib.hid (show TrimRR S g rg nn bs L K w (.returned (.int .i64 n)) wr.drew from
                ⟨n, rfl, by omega, HA.out, .inr ⟨p, hpn, hrg, by rw [Hy.out]; simp at dk; push_cast; exact dk⟩, ⟨L'.drop n, A, c, k0, ck, by rw [List.map_drop, HLL.out], HF.out.keeps (X := nobody) Keeps.drew (fun _ _ h => h)⟩, HK.out.trans Keeps.drew⟩)
              go_wp2_with fail
              go_ret
              exact HR.out
            | false =>
              go_wp2_with fail
              refine wp_region_mono nobody (by kernel_rfl) ?_
              -- 0 Op.move (Operand.tmp 0)
              refine wpMono_take' 0 (v := ?_) rfl (by kernel_rfl) (by kernel_rfl) (by kernel_rfl) (fun _ _ _ h => h) (by rfl) ?_ ?_
              rotate_left
              · (intro W hSw; have hcW := hSw.cells; try simp only [World.size_drew, World.cell?_drew] at hcW
                 go_simp; first | done | rfl)
              try simp only [Act.put, List.setIfInBounds_toArray, List.set_cons_zero, List.set_cons_succ]
              -- 1 Op.move (Operand.tmp 4)
              refine wpMono_take' 1 (v := ?_) rfl (by kernel_rfl) (by kernel_rfl) (by kernel_rfl) (fun _ _ _ h => h) (by rfl) ?_ ?_
              rotate_left
              · (intro W hSw; have hcW := hSw.cells; try simp only [World.size_drew, World.cell?_drew] at hcW
                 go_simp; first | done | rfl)
              try simp only [Act.put, List.setIfInBounds_toArray, List.set_cons_zero, List.set_cons_succ]
              -- EFFECT 2 Op.call { callee := Callee.value (Operand.func 27), args := #[Operand.tmp 19, Operand.tmp 20], argTypes := #[50, 3] }
              refine wpMono_one' 2 (by kernel_rfl) rfl (by rfl) (fun K hK => ?_)
              go_simp
              refine (is_ref ((p : Nat) + 1 : Int) HS.out).mono ?_
              rintro e w5 ⟨rfl, rfl⟩
              rw [Hi.out]
              refine hK.out _ _ ?_ ?_
              · exact .refl _ _
              clear hK K
              try simp only [Act.put, List.setIfInBounds_toArray, List.set_cons_zero, List.set_cons_succ]
              -- 3 Op.move (Operand.tmp 21)
              refine wpMono_take' 3 (v := ?_) rfl (by kernel_rfl) (by kernel_rfl) (by kernel_rfl) (fun _ _ _ h => h) (by rfl) ?_ ?_
              rotate_left
              · (intro W hSw; have hcW := hSw.cells; try simp only [World.size_drew, World.cell?_drew] at hcW
                 go_simp; first | done | rfl)
              try simp only [Act.put, List.setIfInBounds_toArray, List.set_cons_zero, List.set_cons_succ]
              -- 4 Op.move (Operand.tmp 0)
              refine wpMono_take' 4 (v := ?_) rfl (by kernel_rfl) (by kernel_rfl) (by kernel_rfl) (fun _ _ _ h => h) (by rfl) ?_ ?_
              rotate_left
              · (intro W hSw; have hcW := hSw.cells; try simp only [World.size_drew, World.cell?_drew] at hcW
                 go_simp; first | done | rfl)
              try simp only [Act.put, List.setIfInBounds_toArray, List.set_cons_zero, List.set_cons_succ]
              -- 5 Op.nilCheck (Operand.tmp 23)
              refine wpMono_take' 5 (v := ?_) rfl (by kernel_rfl) (by kernel_rfl) (by kernel_rfl) (fun _ _ _ h => h) (by rfl) ?_ ?_
              rotate_left
              · (intro W hSw; have hcW := hSw.cells; try simp only [World.size_drew, World.cell?_drew] at hcW
                 go_simp; first | done | rfl)
              try simp only [Act.put, List.setIfInBounds_toArray, List.set_cons_zero, List.set_cons_succ]
              -- 6 Op.fieldAddr 61 (Operand.tmp 24) 4
              refine wpMono_take' 6 (v := ?_) rfl (by kernel_rfl) (by kernel_rfl) (by kernel_rfl) (fun _ _ _ h => h) (by rfl) ?_ ?_
              rotate_left
              · (intro W hSw; have hcW := hSw.cells; try simp only [World.size_drew, World.cell?_drew] at hcW
                 go_simp; first | done | rfl)
              try simp only [Act.put, List.setIfInBounds_toArray, List.set_cons_zero, List.set_cons_succ]
              -- 7 Op.load 32 (Operand.tmp 25)
              refine wpMono_take' 7 (v := ?_) rfl (by kernel_rfl) (by kernel_rfl) (by kernel_rfl) (fun _ _ _ h => h) (by rfl) ?_ ?_
              rotate_left
              · (intro W hSw; have hcW := hSw.cells; try simp only [World.size_drew, World.cell?_drew] at hcW
                 go_simp; first | done | rfl)
              try simp only [Act.put, List.setIfInBounds_toArray, List.set_cons_zero, List.set_cons_succ]
              -- 8 Op.move (Operand.tmp 4)
              refine wpMono_take' 8 (v := ?_) rfl (by kernel_rfl) (by kernel_rfl) (by kernel_rfl) (fun _ _ _ h => h) (by rfl) ?_ ?_
              rotate_left
              · (intro W hSw; have hcW := hSw.cells; try simp only [World.size_drew, World.cell?_drew] at hcW
                 go_simp; first | done | rfl)
              try simp only [Act.put, List.setIfInBounds_toArray, List.set_cons_zero, List.set_cons_succ]
              -- 9 Op.binOp BinOp.sub 3 (Operand.tmp 27) (Operand.const (Value.int IntKind.i64 1)) 3
              refine wpMono_take' 9 (v := ?_) rfl (by kernel_rfl) (by kernel_rfl) (by kernel_rfl) (fun _ _ _ h => h) (by rfl) ?_ ?_
              rotate_left
              · (intro W hSw; have hcW := hSw.cells; try simp only [World.size_drew, World.cell?_drew] at hcW
                 go_simp; first | done | rfl)
              try simp only [Act.put, List.setIfInBounds_toArray, List.set_cons_zero, List.set_cons_succ]
              -- 10 Op.indexAddr 32 (Operand.tmp 26) (Operand.tmp 28)
              refine wpMono_take' 10 (v := ?_) rfl (by kernel_rfl) (by kernel_rfl) (by kernel_rfl) (fun _ _ _ h => h) (by rfl) ?_ ?_
              rotate_left
              · (intro W hSw; have hcW := hSw.cells; try simp only [World.size_drew, World.cell?_drew] at hcW
                 go_simp; first | done | rfl)
              try simp only [Act.put, List.setIfInBounds_toArray, List.set_cons_zero, List.set_cons_succ]
              -- 11 Op.load 3 (Operand.tmp 29)
              refine wpMono_take' 11 (v := ?_) rfl (by kernel_rfl) (by kernel_rfl) (by kernel_rfl) (fun _ _ _ h => h) (by rfl) ?_ ?_
              rotate_left
              · (intro W hSw; have hcW := hSw.cells; try simp only [World.size_drew, World.cell?_drew] at hcW
                 go_simp; first | done | rfl)
              try simp only [Act.put, List.setIfInBounds_toArray, List.set_cons_zero, List.set_cons_succ]
              -- 12 Op.move (Operand.tmp 0)
              refine wpMono_take' 12 (v := ?_) rfl (by kernel_rfl) (by kernel_rfl) (by kernel_rfl) (fun _ _ _ h => h) (by rfl) ?_ ?_
              rotate_left
              · (intro W hSw; have hcW := hSw.cells; try simp only [World.size_drew, World.cell?_drew] at hcW
                 go_simp; first | done | rfl)
              try simp only [Act.put, List.setIfInBounds_toArray, List.set_cons_zero, List.set_cons_succ]
              -- 13 Op.nilCheck (Operand.tmp 31)
              refine wpMono_take' 13 (v := ?_) rfl (by kernel_rfl) (by kernel_rfl) (by kernel_rfl) (fun _ _ _ h => h) (by rfl) ?_ ?_
              rotate_left
              · (intro W hSw; have hcW := hSw.cells; try simp only [World.size_drew, World.cell?_drew] at hcW
                 go_simp; first | done | rfl)
              try simp only [Act.put, List.setIfInBounds_toArray, List.set_cons_zero, List.set_cons_succ]
              -- 14 Op.fieldAddr 61 (Operand.tmp 32) 2
              refine wpMono_take' 14 (v := ?_) rfl (by kernel_rfl) (by kernel_rfl) (by kernel_rfl) (fun _ _ _ h => h) (by rfl) ?_ ?_
              rotate_left
              · (intro W hSw; have hcW := hSw.cells; try simp only [World.size_drew, World.cell?_drew] at hcW
                 go_simp; first | done | rfl)
              try simp only [Act.put, List.setIfInBounds_toArray, List.set_cons_zero, List.set_cons_succ]
              -- 15 Op.load 3 (Operand.tmp 33)
              refine wpMono_take' 15 (v := ?_) rfl (by kernel_rfl) (by kernel_rfl) (by kernel_rfl) (fun _ _ _ h => h) (by rfl) ?_ ?_
              rotate_left
              · (intro W hSw; have hcW := hSw.cells; try simp only [World.size_drew, World.cell?_drew] at hcW
                 go_simp; first | done | rfl)
              try simp only [Act.put, List.setIfInBounds_toArray, List.set_cons_zero, List.set_cons_succ]
              -- 16 Op.binOp BinOp.leq 3 (Operand.tmp 30) (Operand.tmp 34) 3
              refine wpMono_take' 16 (v := ?_) rfl (by kernel_rfl) (by kernel_rfl) (by kernel_rfl) (fun _ _ _ h => h) (by rfl) ?_ ?_
              rotate_left
              · (intro W hSw; have hcW := hSw.cells; try simp only [World.size_drew, World.cell?_drew] at hcW
                 go_simp; first | done | rfl)
              try simp only [Act.put, List.setIfInBounds_toArray, List.set_cons_zero, List.set_cons_succ]
              -- 17 Op.pick (Operand.tmp 22) (Operand.tmp 35) (Operand.const (Value.bool false))
              refine wpMono_take' 17 (v := ?_) rfl (by kernel_rfl) (by kernel_rfl) (by kernel_rfl) (fun _ _ _ h => h) (by rfl) ?_ ?_
              rotate_left
              · (intro W hSw; have hcW := hSw.cells; try simp only [World.size_drew, World.cell?_drew] at hcW
                 go_simp; first | done | rfl)
              try simp only [Act.put, List.setIfInBounds_toArray, List.set_cons_zero, List.set_cons_succ]
              refine wpMono_done (by kernel_rfl) ?_ _
              go_wp2_with fail
              go_roundw
              case rel => exact ⟨p + 1, by go_num, by omega, fun q hq hq2 => by
                by_cases e : q = p
                · subst e; rw [Hy.out]; simp at dk; push_cast; omega
                · exact Hall.out q (by omega) hq2, HF.out.keeps (X := nobody) Keeps.drew (fun _ _ h => h), HK.out.trans Keeps.drew⟩
              case measure => simp [intOf]; omega
          | false =>
            have hrg : p + 1 = rg := by
              by_cases h : p + 1 = rg
              · exact h
              · have := isB_at' (rg := rg) (nn := nn) (q := p) hpn h
                rw [hi] at this; cases this
            have Hi := Lib.hid hi
            clear hf hk hall hi
            go_wp2_with fail
            refine wp_region_mono nobody (by kernel_rfl) ?_
            -- 0 Op.move (Operand.tmp 0)
            refine wpMono_take' 0 (v := ?_) rfl (by kernel_rfl) (by kernel_rfl) (by kernel_rfl) (fun _ _ _ h => h) (by rfl) ?_ ?_
            rotate_left
            · (intro W hSw; have hcW := hSw.cells; try simp only [World.size_drew, World.cell?_drew] at hcW
               go_simp; first | done | rfl)
            try simp only [Act.put, List.setIfInBounds_toArray, List.set_cons_zero, List.set_cons_succ]
            -- 1 Op.move (Operand.tmp 4)
            refine wpMono_take' 1 (v := ?_) rfl (by kernel_rfl) (by kernel_rfl) (by kernel_rfl) (fun _ _ _ h => h) (by rfl) ?_ ?_
            rotate_left
            · (intro W hSw; have hcW := hSw.cells; try simp only [World.size_drew, World.cell?_drew] at hcW
               go_simp; first | done | rfl)
            try simp only [Act.put, List.setIfInBounds_toArray, List.set_cons_zero, List.set_cons_succ]
            -- EFFECT 2 Op.call { callee := Callee.value (Operand.func 27), args := #[Operand.tmp 19, Operand.tmp 20], argTypes := #[50, 3] }
            refine wpMono_one' 2 (by kernel_rfl) rfl (by rfl) (fun K hK => ?_)
            go_simp
            refine (is_ref ((p : Nat) + 1 : Int) HS.out).mono ?_
            rintro e w5 ⟨rfl, rfl⟩
            rw [Hi.out]
            refine hK.out _ _ ?_ ?_
            · exact .refl _ _
            clear hK K
            try simp only [Act.put, List.setIfInBounds_toArray, List.set_cons_zero, List.set_cons_succ]
            -- 3 Op.move (Operand.tmp 21)
            refine wpMono_take' 3 (v := ?_) rfl (by kernel_rfl) (by kernel_rfl) (by kernel_rfl) (fun _ _ _ h => h) (by rfl) ?_ ?_
            rotate_left
            · (intro W hSw; have hcW := hSw.cells; try simp only [World.size_drew, World.cell?_drew] at hcW
               go_simp; first | done | rfl)
            try simp only [Act.put, List.setIfInBounds_toArray, List.set_cons_zero, List.set_cons_succ]
            -- 4 Op.move (Operand.tmp 0)
            refine wpMono_skip' 4 rfl (by kernel_rfl) (by kernel_rfl) (by kernel_rfl) (fun _ _ _ h => h) (by rfl) ?_
            try simp only [Act.put, List.setIfInBounds_toArray, List.set_cons_zero, List.set_cons_succ]
            -- 5 Op.nilCheck (Operand.tmp 23)
            refine wpMono_skip' 5 rfl (by kernel_rfl) (by kernel_rfl) (by kernel_rfl) (fun _ _ _ h => h) (by rfl) ?_
            try simp only [Act.put, List.setIfInBounds_toArray, List.set_cons_zero, List.set_cons_succ]
            -- 6 Op.fieldAddr 61 (Operand.tmp 24) 4
            refine wpMono_skip' 6 rfl (by kernel_rfl) (by kernel_rfl) (by kernel_rfl) (fun _ _ _ h => h) (by rfl) ?_
            try simp only [Act.put, List.setIfInBounds_toArray, List.set_cons_zero, List.set_cons_succ]
            -- 7 Op.load 32 (Operand.tmp 25)
            refine wpMono_skip' 7 rfl (by kernel_rfl) (by kernel_rfl) (by kernel_rfl) (fun _ _ _ h => h) (by rfl) ?_
            try simp only [Act.put, List.setIfInBounds_toArray, List.set_cons_zero, List.set_cons_succ]
            -- 8 Op.move (Operand.tmp 4)
            refine wpMono_skip' 8 rfl (by kernel_rfl) (by kernel_rfl) (by kernel_rfl) (fun _ _ _ h => h) (by rfl) ?_
            try simp only [Act.put, List.setIfInBounds_toArray, List.set_cons_zero, List.set_cons_succ]
            -- 9 Op.binOp BinOp.sub 3 (Operand.tmp 27) (Operand.const (Value.int IntKind.i64 1)) 3
            refine wpMono_skip' 9 rfl (by kernel_rfl) (by kernel_rfl) (by kernel_rfl) (fun _ _ _ h => h) (by rfl) ?_
            try simp only [Act.put, List.setIfInBounds_toArray, List.set_cons_zero, List.set_cons_succ]
            -- 10 Op.indexAddr 32 (Operand.tmp 26) (Operand.tmp 28)
            refine wpMono_skip' 10 rfl (by kernel_rfl) (by kernel_rfl) (by kernel_rfl) (fun _ _ _ h => h) (by rfl) ?_
            try simp only [Act.put, List.setIfInBounds_toArray, List.set_cons_zero, List.set_cons_succ]
            -- 11 Op.load 3 (Operand.tmp 29)
            refine wpMono_skip' 11 rfl (by kernel_rfl) (by kernel_rfl) (by kernel_rfl) (fun _ _ _ h => h) (by rfl) ?_
            try simp only [Act.put, List.setIfInBounds_toArray, List.set_cons_zero, List.set_cons_succ]
            -- 12 Op.move (Operand.tmp 0)
            refine wpMono_skip' 12 rfl (by kernel_rfl) (by kernel_rfl) (by kernel_rfl) (fun _ _ _ h => h) (by rfl) ?_
            try simp only [Act.put, List.setIfInBounds_toArray, List.set_cons_zero, List.set_cons_succ]
            -- 13 Op.nilCheck (Operand.tmp 31)
            refine wpMono_skip' 13 rfl (by kernel_rfl) (by kernel_rfl) (by kernel_rfl) (fun _ _ _ h => h) (by rfl) ?_
            try simp only [Act.put, List.setIfInBounds_toArray, List.set_cons_zero, List.set_cons_succ]
            -- 14 Op.fieldAddr 61 (Operand.tmp 32) 2
            refine wpMono_skip' 14 rfl (by kernel_rfl) (by kernel_rfl) (by kernel_rfl) (fun _ _ _ h => h) (by rfl) ?_
            try simp only [Act.put, List.setIfInBounds_toArray, List.set_cons_zero, List.set_cons_succ]
            -- 15 Op.load 3 (Operand.tmp 33)
            refine wpMono_skip' 15 rfl (by kernel_rfl) (by kernel_rfl) (by kernel_rfl) (fun _ _ _ h => h) (by rfl) ?_
            try simp only [Act.put, List.setIfInBounds_toArray, List.set_cons_zero, List.set_cons_succ]
            -- 16 Op.binOp BinOp.leq 3 (Operand.tmp 30) (Operand.tmp 34) 3
            refine wpMono_skip' 16 rfl (by kernel_rfl) (by kernel_rfl) (by kernel_rfl) (fun _ _ _ h => h) (by rfl) ?_
            try simp only [Act.put, List.setIfInBounds_toArray, List.set_cons_zero, List.set_cons_succ]
            -- 17 Op.pick (Operand.tmp 22) (Operand.tmp 35) (Operand.const (Value.bool false))
            refine wpMono_take' 17 (v := ?_) rfl (by kernel_rfl) (by kernel_rfl) (by kernel_rfl) (fun _ _ _ h => h) (by rfl) ?_ ?_
            rotate_left
            · (intro W hSw; have hcW := hSw.cells; try simp only [World.size_drew, World.cell?_drew] at hcW
               go_simp; first | done | rfl)
            try simp only [Act.put, List.setIfInBounds_toArray, List.set_cons_zero, List.set_cons_succ]
            refine wpMono_done (by kernel_rfl) ?_ _
            go_wp2_with fail
            go_roundw
            case rel => exact ⟨p + 1, by go_num, by omega, fun q hq hq2 => Hall.out q (by omega) hq2, HF.out.keeps (X := nobody) Keeps.drew (fun _ _ h => h), HK.out.trans Keeps.drew⟩
            case measure => simp [intOf]; omega
        · obtain rfl : nn = p := by omega
          have d2 : decide (((nn : Nat) : Int) + 1 ≤ (nn : Int)) = false := by simp; omega
          have hAb : Above rg nn bs K (n + 1) := fun j hj q hq hq2 => by
            by_cases e : j = n
            · subst e; exact Hall.out q hq hq2
            · exact HA.out j (by omega) q hq hq2
          have hm1 : 1 ≤ m := by omega
          have hlm : (L'.drop n).length = m := Hm.out
          obtain ⟨b, off, rfl, _⟩ := HF.out.rl.row.at_some (by rw [hlm]; omega)
          have hrl := HF.out.rl.drop1 (by rw [hlm]; omega)
          have hcm : m ≤ c := by have := HF.out.rl.cap; omega
          have q3 : wr.cell? ⟨g, 3, none⟩ = _ := HF.out.blk.cell 3
          have q2 : wr.cell? ⟨g, 2, none⟩ = _ := HF.out.blk.cell 2
          have f3 := HF.out.blk.frozen 3
          have f2 := HF.out.blk.frozen 2
          rw [hlm] at q3
          simp at q3 q2
          have hstep := HF.out.step (by rw [hlm]; omega) hrl
          have hdd : (L'.drop n).drop 1 = L'.drop (n + 1) := by rw [List.drop_drop]
          have hdl : (L'.drop (n + 1)).length = m - 1 := by simp; omega
          rw [hdd, hdl] at hstep
          have hkst := HK.out.trans ((Keeps.setCell (X := S) (p := ⟨g, 3, none⟩) (.inl HF.out.inG) (.slice (if c = 1 then some ⟨b, off, none⟩ else some ⟨b, off + 10, none⟩) (m - 1) (c - 1))).trans (Keeps.setCell (X := S) (p := ⟨g, 2, none⟩) (.inl HF.out.inG) (.int .i64 (bs + n + 1 : Nat))))
          have hb16 : (bs : Int) + (n : Int) + 1 ≤ 1099511627777 := by omega
          have hbn : ((bs + n + 1 : Nat) : Int) = (bs : Int) + (n : Int) + 1 := by omega
          rw [hbn] at hstep hkst
          have Hab := Lib.hid hAb
          clear hAb hrl hdd hdl hlm hf hk hall hbn
          by_cases hc1 : c = 1
          · rw [if_pos hc1, show c - 1 = 0 by omega] at hstep hkst
            have Hstep := Lib.hid hstep
            have Hkst := Lib.hid hkst
            clear hstep hkst
            go_wp2_with fail
            go_roundw
            case rel => exact ⟨n + 1, by go_num, by omega, Hab.out, ⟨_, _, Hstep.out⟩, Hkst.out⟩
            case measure => simp [intOf]; omega
          · rw [if_neg hc1] at hstep hkst
            have Hstep := Lib.hid hstep
            have Hkst := Lib.hid hkst
            clear hstep hkst
            go_wp2_with fail
            go_roundw
            case rel => exact ⟨n + 1, by go_num, by omega, Hab.out, ⟨_, _, Hstep.out⟩, Hkst.out⟩
            case measure => simp [intOf]; omega
    · have d1 : decide ((0 : Int) < (m : Int)) = false := by simp; omega
      have hnl2 : n = L'.length := by omega
      have HR := Lib.hid (show TrimRR S g rg nn bs L K w (.returned (.int .i64 n)) wr from
        ⟨n, rfl, by omega, HA.out, .inl (by omega), ⟨L'.drop n, A, c, k0, ck, by rw [List.map_drop, HLL.out], HF.out⟩, HK.out⟩)
      go_wp2_with fail
      go_ret
      exact HR.out
end Go.Proofs.Ytmclmefgddomfaa.feed
