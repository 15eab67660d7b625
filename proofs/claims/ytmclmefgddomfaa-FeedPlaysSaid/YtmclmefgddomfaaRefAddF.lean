/- The walk of the document's Add. -/
import Derived.Test.YtmclmefgddomfaaRefF
import Derived.Test.YtmclmefgddomfaaRightRef
import Derived.Test.YtmclmefgddomfaaEncode
namespace Go.Proofs.Ytmclmefgddomfaa.feed
open Go.RowKit Go.Proofs.Ytmclmefgddomfaa.base Go.Proofs.Ytmclmefgddomfaa.rowe Go.Proofs.Ytmclmefgddomfaa.err Go.Proofs.Ytmclmefgddomfaa.wire Go.Proofs.Ytmclmefgddomfaa.monoj

theorem append_types {P : Program} {w : World} {t u ty e e' : TypeId} {i : TypeInfo} (ht : P.underlying t = some (.slice e)) (hu : P.underlying u = some (.slice e')) (hi : P.info? e = some i) (A : Option Addr) (n c : Nat) (x : Value) : (Builtin.append_ #[t, u] ty #[.slice A n c, x]).run P w = (Builtin.append_ #[t, t] ty #[.slice A n c, x]).run P w := by
  unfold Builtin.append_
  simp [run_underlying ht, run_underlying hu, sizeOf, typeInfo, hi]
theorem wpList_append_two {P : Program} {w : World} {ops : Array Oper} {rest : List Oper} {o : Oper} {a : Act} {Q : Exit → Act → World → Prop} (hgd : o.guard = none) (s x : Operand) (t u : TypeId)
    (ho : o.op = .call { callee := .builtin .append, args := #[s, x], argTypes := #[t, u] })
    (base : Nat) (e e' : TypeId) (i : TypeInfo) (z : Value) (size bytes : Nat) (ht : P.underlying t = some (.slice e)) (hu : P.underlying u = some (.slice e')) (hi : P.info? e = some i) (hz : i.zero = some z)
    (hsize : i.size = size) (hby : i.bytes = bytes) (hzs : z.cells.size = size) (hsz : 0 < size)
    (v : Value) (n : Nat) (xs : List Value) (hs : a.eval s = v) (hown : w.ownsRow base e size v n xs)
    (B : Nat) (A : Option Addr) (m c : Nat) (news : List Value) (hx : a.eval x = .slice A m c) (hr : Reads w B size A m news) (h1 : ∀ u ∈ news, u.oneCell' = true)
    (h63 : n + m ≤ maxLen) (hbytes : (n + m) * bytes ≤ 140737488355328) (hbase : base ≤ w.heap.size)
    (h : ∀ v' w', w'.ownsRow base e size v' (n + m) (xs ++ news) → w.grownBy w' v.ownBlock → (v'.ownBlock = v.ownBlock ∨ v'.ownBlock = some w.heap.size) → wpList P ops Q rest (a.put o.dst v') w') : wpList P ops Q (o :: rest) a w := by
  refine wpList_plain hgd fun K hK => ?_
  obtain ⟨v', w', hrun, h2, h3, h4⟩ := run_append_any (P := P) w base t o.type e i z size bytes ht hi hz hsize hby hzs hsz v n xs hown B A m c news hr h1 h63 hbytes hbase
  obtain ⟨Av, cv, rfl⟩ := ownsRow_slice hown
  unfold Oper.wp execOp
  simp only [ho, resolve, invoke, builtin, Sem.run_bind, Sem.run_pure, Result.andThen_ok, List.map_toArray, List.map_cons, List.map_nil, hs, hx, append_types ht hu hi, hrun]
  exact hK _ _ (h v' w' h2 h3 h4)
theorem Reads.of_blk {w : World} {g : Nat} {t : TypeId} {cs : Array Value} {n size : Nat} (h : Blk w g t cs) (hn : cs.size = n * size) : Reads w w.heap.size size (some ⟨g, 0, none⟩) n cs.toList :=
  ⟨by simpa using hn, fun _ => ⟨g, 0, rfl, h.lt, fun j _ => by rw [Nat.zero_add, h.cell j]; simp⟩⟩
def AddRR (S : Nat → Prop) (g rg nn bs : Nat) (L : List Wr) (K : List Int) (x : Wr) (w : World) (e : Ending) (w' : World) : Prop :=
  e = .returned (.int .i64 (addC rg bs L x)) ∧ Keeps S w w' ∧ ∃ S', RefS w' S' g rg nn bs (addL rg bs L x) K ∧ (∀ i, S' i → S i ∨ w.heap.size ≤ i)
theorem RefF.push {S : Nat → Prop} {w : World} {g rg nn bs : Nat} {L' : List Wr} {K : List Int} {A A5 : Option Addr} {c k0 ck c5 B : Nat} (h : RefF w S g rg nn bs L' K A c k0 ck) {x : Wr} (hd : NumsO w B x.d x.z) (hB : k0 + 1 ≤ B)
    (hrow : w.ownsRow B 35 10 (.slice A5 (L'.length + 1) c5) (L'.length + 1) (L'.flatMap Wr.cells ++ x.cells)) (hl : L'.length < 1000000) (hlast : bs + (L'.length + 1) ≤ 1099511627776) :
    RefF (w.setCell ⟨g, 3, none⟩ (.slice A5 (L'.length + 1) c5)) (fun i => (S i ∨ B ≤ i) ∧ i < w.heap.size) g rg nn bs (L' ++ [x]) K A5 c5 k0 ck := by
  have hlt := h.k0lt
  have hS : ∀ i, S i → (S i ∨ B ≤ i) ∧ i < w.heap.size := fun i hi => ⟨.inl hi, h.small i hi⟩
  have hcap : L'.length + 1 ≤ c5 := by
    rcases hrow.2 with ⟨e, h0⟩ | ⟨g', cap, cur, e, _, _, h3, _⟩
    · omega
    · injection e with _ _ e; omega
  have hR : RL w (fun i => (S i ∨ B ≤ i) ∧ i < w.heap.size) (k0 + 1) A5 c5 (L' ++ [x]) := by
    refine ⟨?_, by simpa using hcap, by simp; omega, fun b off e _ => ?_, fun y hy => ?_, fun y hy i hi => ?_⟩
    · have := Reads.of_own hrow
      simpa [List.flatMap_append] using this
    · have := hrow.lt b (by rw [e]; rfl)
      exact ⟨⟨.inr this.1, this.2⟩, by omega⟩
    · rcases List.mem_append.1 hy with hy | hy
      · exact h.rl.nums y hy
      · rw [List.mem_singleton.1 hy]; exact hd.base hB
    · rcases List.mem_append.1 hy with hy | hy
      · exact hS i (h.rl.numS y hy i hi)
      · rw [List.mem_singleton.1 hy] at hi; exact ⟨.inr (hd.1.lt _ hi).1, (hd.1.lt _ hi).2⟩
  refine ⟨?_, hR.keeps (Keeps.set1 w g 3 _) (fun i _ hi e => by omega), ow_keeps' h.know (Keeps.set1 w g 3 _) (fun i hi e => by injection hi with hi; simp at hi; omega), hS g h.inG, hS k0 h.inK, h.klen, h.r0, h.r1, h.n1, by simpa [Nat.add_assoc] using hlast, fun i hi => by simpa using hi.2⟩
  have := h.blk.set_ 3 (.slice A5 (L'.length + 1) c5)
  simpa using this
set_option maxRecDepth 100000 in
set_option maxHeartbeats 2000000 in
theorem add_ref {S : Nat → Prop} {w : World} {g rg nn bs : Nat} {L : List Wr} {K : List Int} (x : Wr) (h : RefS w S g rg nn bs L K) (hd : Nums w w.heap.size x.d x.z) (hz6 : x.z.length ≤ 1000000) (hL : L.length < 1000000) :
    Calls Try.prog 22 #[.pointer (some ⟨g, 0, none⟩), .agg ⟨x.cells⟩] w (AddRR S g rg nn bs L K x w) := by
  have H := Lib.hid h
  obtain ⟨i0, hi0, hz⟩ := Option.map_eq_some_iff.1 write_info
  simp only [Prod.mk.injEq] at hz
  obtain ⟨hz0, hz1, hz2⟩ := hz
  obtain ⟨i1, hi1, hy⟩ := Option.map_eq_some_iff.1 int_info
  simp only [Prod.mk.injEq] at hy
  obtain ⟨hy0, hy1, hy2⟩ := hy
  obtain ⟨L', A, c, k0, ck, hLL, hf⟩ := h
  have hb0 := below_new w (.cells x.cells.toArray 35)
  have HD := Lib.hid ((hd.below hb0).more hb0.size)
  have HX0 := Lib.hid (Blk.new w 35 x.cells.toArray)
  have HB0 := Lib.hid hb0
  have HF0 := Lib.hid (hf.keeps (X := nobody) (.of_below hb0) (fun _ _ h => h))
  have hglt := hf.blk.lt
  have hlast := hf.last
  have HSl := Lib.hid hf.small
  have hL2 : L'.length = L.length := by rw [← hLL, List.length_map]
  have hw := IntWalk.i64_in ((bs : Int) + (L.length : Nat) + 1) (by omega)
  clear hd hb0 hf
  obtain ⟨r, n, t, s, d, zs, se, k, v, gn, l⟩ := x
  unfold Wr.cells at *
  dsimp only at *
  obtain ⟨e0, e1, e2, e3, e4, e5, e6, e7, e8, e9⟩ := cells10 HX0.out
  have f0 := HF0.out.blk.cell 0
  have hgl0 := HF0.out.blk.lt
  have hxl0 := HX0.out.lt
  simp at f0
  cases hrt : rightB ⟨r, n, t, s, d, zs, se, k, v, gn, l⟩ with
  | false =>
    have hcode : addC rg bs L ⟨r, n, t, s, d, zs, se, k, v, gn, l⟩ = 1 := by unfold addC; rw [hrt]; rfl
    have Hrt := Lib.hid hrt
    have Hcode := Lib.hid hcode
    clear hrt hcode
    go_enter Try.func22, Try.ntmps22
    go_wp2_with fail
    refine wp_region_mono nobody (by kernel_rfl) ?_
    -- 0 Op.load 35 (Operand.tmp 3)
    refine wpMono_take' 0 (v := ?_) rfl (by kernel_rfl) (by kernel_rfl) (by kernel_rfl) (fun _ _ _ h => h) (by rfl) ?_ ?_
    rotate_left
    · (intro W hSw; have hcW := hSw.cells; try simp only [World.size_drew, World.cell?_drew] at hcW
       go_simp; first | done | rfl)
    try simp only [Act.put, List.setIfInBounds_toArray, List.set_cons_zero, List.set_cons_succ]
    -- EFFECT 1 Op.call { callee := Callee.value (Operand.func 36), args := #[Operand.tmp 5], argTypes := #[35] }
    refine wpMono_one' 1 (by kernel_rfl) rfl (by rfl) (fun K hK => ?_)
    go_simp
    refine (right_ref ⟨r, n, t, s, d, zs, se, k, v, gn, l⟩ _ HD.out.drew').mono ?_
    rintro e w1 ⟨rfl, hb1⟩
    rw [Hrt.out]
    refine hK.out _ _ ?_ ?_
    · exact .of_below hb1
    clear hK K
    try simp only [Act.put, List.setIfInBounds_toArray, List.set_cons_zero, List.set_cons_succ]
    -- 2 Op.unOp UnOp.not 4 (Operand.tmp 6)
    refine wpMono_take' 2 (v := ?_) rfl (by kernel_rfl) (by kernel_rfl) (by kernel_rfl) (fun _ _ _ h => h) (by rfl) ?_ ?_
    rotate_left
    · (intro W hSw; have hcW := hSw.cells; try simp only [World.size_drew, World.cell?_drew] at hcW
       go_simp; first | done | rfl)
    try simp only [Act.put, List.setIfInBounds_toArray, List.set_cons_zero, List.set_cons_succ]
    -- 3 Op.move (Operand.tmp 7)
    refine wpMono_take' 3 (v := ?_) rfl (by kernel_rfl) (by kernel_rfl) (by kernel_rfl) (fun _ _ _ h => h) (by rfl) ?_ ?_
    rotate_left
    · (intro W hSw; have hcW := hSw.cells; try simp only [World.size_drew, World.cell?_drew] at hcW
       go_simp; first | done | rfl)
    try simp only [Act.put, List.setIfInBounds_toArray, List.set_cons_zero, List.set_cons_succ]
    -- 4 Op.fieldAddr 35 (Operand.tmp 3) 0
    refine wpMono_skip' 4 rfl (by kernel_rfl) (by kernel_rfl) (by kernel_rfl) (fun _ _ _ h => h) (by rfl) ?_
    try simp only [Act.put, List.setIfInBounds_toArray, List.set_cons_zero, List.set_cons_succ]
    -- 5 Op.load 3 (Operand.tmp 9)
    refine wpMono_skip' 5 rfl (by kernel_rfl) (by kernel_rfl) (by kernel_rfl) (fun _ _ _ h => h) (by rfl) ?_
    try simp only [Act.put, List.setIfInBounds_toArray, List.set_cons_zero, List.set_cons_succ]
    -- 6 Op.move (Operand.tmp 0)
    refine wpMono_skip' 6 rfl (by kernel_rfl) (by kernel_rfl) (by kernel_rfl) (fun _ _ _ h => h) (by rfl) ?_
    try simp only [Act.put, List.setIfInBounds_toArray, List.set_cons_zero, List.set_cons_succ]
    -- 7 Op.nilCheck (Operand.tmp 11)
    refine wpMono_skip' 7 rfl (by kernel_rfl) (by kernel_rfl) (by kernel_rfl) (fun _ _ _ h => h) (by rfl) ?_
    try simp only [Act.put, List.setIfInBounds_toArray, List.set_cons_zero, List.set_cons_succ]
    -- 8 Op.fieldAddr 61 (Operand.tmp 12) 0
    refine wpMono_skip' 8 rfl (by kernel_rfl) (by kernel_rfl) (by kernel_rfl) (fun _ _ _ h => h) (by rfl) ?_
    try simp only [Act.put, List.setIfInBounds_toArray, List.set_cons_zero, List.set_cons_succ]
    -- 9 Op.load 3 (Operand.tmp 13)
    refine wpMono_skip' 9 rfl (by kernel_rfl) (by kernel_rfl) (by kernel_rfl) (fun _ _ _ h => h) (by rfl) ?_
    try simp only [Act.put, List.setIfInBounds_toArray, List.set_cons_zero, List.set_cons_succ]
    -- 10 Op.binOp BinOp.neq 3 (Operand.tmp 10) (Operand.tmp 14) 3
    refine wpMono_skip' 10 rfl (by kernel_rfl) (by kernel_rfl) (by kernel_rfl) (fun _ _ _ h => h) (by rfl) ?_
    try simp only [Act.put, List.setIfInBounds_toArray, List.set_cons_zero, List.set_cons_succ]
    -- 11 Op.pick (Operand.tmp 8) (Operand.const (Value.bool true)) (Operand.tmp 15)
    refine wpMono_take' 11 (v := ?_) rfl (by kernel_rfl) (by kernel_rfl) (by kernel_rfl) (fun _ _ _ h => h) (by rfl) ?_ ?_
    rotate_left
    · (intro W hSw; have hcW := hSw.cells; try simp only [World.size_drew, World.cell?_drew] at hcW
       go_simp; first | done | rfl)
    try simp only [Act.put, List.setIfInBounds_toArray, List.set_cons_zero, List.set_cons_succ]
    refine wpMono_done (by kernel_rfl) ?_ _
    have HB1 := Lib.hid (HB0.out.drew.trans (hb1.mono HB0.out.size))
    clear hb1 e0 e1 e2 e3 e4 e5 e6 e7 e8 e9 f0
    go_wp2
    go_ret
    exact ⟨ret_int Hcode.out.symm, .of_below HB1.out, S, by unfold addL; rw [Hcode.out, if_neg (by decide)]; exact H.out.below HB1.out, fun i hi => .inl hi⟩
  | true =>
    cases hr : (r == (rg : Int)) with
    | false =>
      have hcode : addC rg bs L ⟨r, n, t, s, d, zs, se, k, v, gn, l⟩ = 1 := by unfold addC; rw [hrt]; dsimp only; rw [hr]; rfl
      have dr : (r != (rg : Int)) = true := by unfold bne; rw [hr]; rfl
      have Hrt := Lib.hid hrt
      have Hcode := Lib.hid hcode
      clear hrt hcode
      go_enter Try.func22, Try.ntmps22
      go_wp2_with fail
      refine wp_region_mono nobody (by kernel_rfl) ?_
      -- 0 Op.load 35 (Operand.tmp 3)
      refine wpMono_take' 0 (v := ?_) rfl (by kernel_rfl) (by kernel_rfl) (by kernel_rfl) (fun _ _ _ h => h) (by rfl) ?_ ?_
      rotate_left
      · (intro W hSw; have hcW := hSw.cells; try simp only [World.size_drew, World.cell?_drew] at hcW
         go_simp; first | done | rfl)
      try simp only [Act.put, List.setIfInBounds_toArray, List.set_cons_zero, List.set_cons_succ]
      -- EFFECT 1 Op.call { callee := Callee.value (Operand.func 36), args := #[Operand.tmp 5], argTypes := #[35] }
      refine wpMono_one' 1 (by kernel_rfl) rfl (by rfl) (fun K hK => ?_)
      go_simp
      refine (right_ref ⟨r, n, t, s, d, zs, se, k, v, gn, l⟩ _ HD.out.drew').mono ?_
      rintro e w1 ⟨rfl, hb1⟩
      rw [Hrt.out]
      have q0 := (HX0.out.drew.below hb1 hxl0).cell 0
      have qg := (HF0.out.blk.drew.below hb1 hgl0).cell 0
      have ql := (HX0.out.drew.below hb1 hxl0).lt
      have qm := (HF0.out.blk.drew.below hb1 hgl0).lt
      simp at q0 qg
      refine hK.out _ _ ?_ ?_
      · exact .of_below hb1
      clear hK K
      try simp only [Act.put, List.setIfInBounds_toArray, List.set_cons_zero, List.set_cons_succ]
      -- 2 Op.unOp UnOp.not 4 (Operand.tmp 6)
      refine wpMono_take' 2 (v := ?_) rfl (by kernel_rfl) (by kernel_rfl) (by kernel_rfl) (fun _ _ _ h => h) (by rfl) ?_ ?_
      rotate_left
      · (intro W hSw; have hcW := hSw.cells; try simp only [World.size_drew, World.cell?_drew] at hcW
         go_simp; first | done | rfl)
      try simp only [Act.put, List.setIfInBounds_toArray, List.set_cons_zero, List.set_cons_succ]
      -- 3 Op.move (Operand.tmp 7)
      refine wpMono_take' 3 (v := ?_) rfl (by kernel_rfl) (by kernel_rfl) (by kernel_rfl) (fun _ _ _ h => h) (by rfl) ?_ ?_
      rotate_left
      · (intro W hSw; have hcW := hSw.cells; try simp only [World.size_drew, World.cell?_drew] at hcW
         go_simp; first | done | rfl)
      try simp only [Act.put, List.setIfInBounds_toArray, List.set_cons_zero, List.set_cons_succ]
      -- 4 Op.fieldAddr 35 (Operand.tmp 3) 0
      refine wpMono_take' 4 (v := ?_) rfl (by kernel_rfl) (by kernel_rfl) (by kernel_rfl) (fun _ _ _ h => h) (by rfl) ?_ ?_
      rotate_left
      · (intro W hSw; have hcW := hSw.cells; try simp only [World.size_drew, World.cell?_drew] at hcW
         go_simp; first | done | rfl)
      try simp only [Act.put, List.setIfInBounds_toArray, List.set_cons_zero, List.set_cons_succ]
      -- 5 Op.load 3 (Operand.tmp 9)
      refine wpMono_take' 5 (v := ?_) rfl (by kernel_rfl) (by kernel_rfl) (by kernel_rfl) (fun _ _ _ h => h) (by rfl) ?_ ?_
      rotate_left
      · (intro W hSw; have hcW := hSw.cells; try simp only [World.size_drew, World.cell?_drew] at hcW
         go_simp; first | done | rfl)
      try simp only [Act.put, List.setIfInBounds_toArray, List.set_cons_zero, List.set_cons_succ]
      -- 6 Op.move (Operand.tmp 0)
      refine wpMono_take' 6 (v := ?_) rfl (by kernel_rfl) (by kernel_rfl) (by kernel_rfl) (fun _ _ _ h => h) (by rfl) ?_ ?_
      rotate_left
      · (intro W hSw; have hcW := hSw.cells; try simp only [World.size_drew, World.cell?_drew] at hcW
         go_simp; first | done | rfl)
      try simp only [Act.put, List.setIfInBounds_toArray, List.set_cons_zero, List.set_cons_succ]
      -- 7 Op.nilCheck (Operand.tmp 11)
      refine wpMono_take' 7 (v := ?_) rfl (by kernel_rfl) (by kernel_rfl) (by kernel_rfl) (fun _ _ _ h => h) (by rfl) ?_ ?_
      rotate_left
      · (intro W hSw; have hcW := hSw.cells; try simp only [World.size_drew, World.cell?_drew] at hcW
         go_simp; first | done | rfl)
      try simp only [Act.put, List.setIfInBounds_toArray, List.set_cons_zero, List.set_cons_succ]
      -- 8 Op.fieldAddr 61 (Operand.tmp 12) 0
      refine wpMono_take' 8 (v := ?_) rfl (by kernel_rfl) (by kernel_rfl) (by kernel_rfl) (fun _ _ _ h => h) (by rfl) ?_ ?_
      rotate_left
      · (intro W hSw; have hcW := hSw.cells; try simp only [World.size_drew, World.cell?_drew] at hcW
         go_simp; first | done | rfl)
      try simp only [Act.put, List.setIfInBounds_toArray, List.set_cons_zero, List.set_cons_succ]
      -- 9 Op.load 3 (Operand.tmp 13)
      refine wpMono_take' 9 (v := ?_) rfl (by kernel_rfl) (by kernel_rfl) (by kernel_rfl) (fun _ _ _ h => h) (by rfl) ?_ ?_
      rotate_left
      · (intro W hSw; have hcW := hSw.cells; try simp only [World.size_drew, World.cell?_drew] at hcW
         go_simp; first | done | rfl)
      try simp only [Act.put, List.setIfInBounds_toArray, List.set_cons_zero, List.set_cons_succ]
      -- 10 Op.binOp BinOp.neq 3 (Operand.tmp 10) (Operand.tmp 14) 3
      refine wpMono_take' 10 (v := ?_) rfl (by kernel_rfl) (by kernel_rfl) (by kernel_rfl) (fun _ _ _ h => h) (by rfl) ?_ ?_
      rotate_left
      · (intro W hSw; have hcW := hSw.cells; try simp only [World.size_drew, World.cell?_drew] at hcW
         go_simp; first | done | rfl)
      try simp only [Act.put, List.setIfInBounds_toArray, List.set_cons_zero, List.set_cons_succ]
      -- 11 Op.pick (Operand.tmp 8) (Operand.const (Value.bool true)) (Operand.tmp 15)
      refine wpMono_take' 11 (v := ?_) rfl (by kernel_rfl) (by kernel_rfl) (by kernel_rfl) (fun _ _ _ h => h) (by rfl) ?_ ?_
      rotate_left
      · (intro W hSw; have hcW := hSw.cells; try simp only [World.size_drew, World.cell?_drew] at hcW
         go_simp; first | done | rfl)
      try simp only [Act.put, List.setIfInBounds_toArray, List.set_cons_zero, List.set_cons_succ]
      refine wpMono_done (by kernel_rfl) ?_ _
      have HB1 := Lib.hid (HB0.out.drew.trans (hb1.mono HB0.out.size))
      clear hb1 e0 e1 e2 e3 e4 e5 e6 e7 e8 e9 f0
      go_wp2
      go_ret
      exact ⟨ret_int Hcode.out.symm, .of_below HB1.out, S, by unfold addL; rw [Hcode.out, if_neg (by decide)]; exact H.out.below HB1.out, fun i hi => .inl hi⟩
    | true =>
      have dr : (r != (rg : Int)) = false := by unfold bne; rw [hr]; rfl
      have Hrt := Lib.hid hrt
      clear hrt
      go_enter Try.func22, Try.ntmps22
      go_wp2_with fail
      refine wp_region_mono nobody (by kernel_rfl) ?_
      -- 0 Op.load 35 (Operand.tmp 3)
      refine wpMono_take' 0 (v := ?_) rfl (by kernel_rfl) (by kernel_rfl) (by kernel_rfl) (fun _ _ _ h => h) (by rfl) ?_ ?_
      rotate_left
      · (intro W hSw; have hcW := hSw.cells; try simp only [World.size_drew, World.cell?_drew] at hcW
         go_simp; first | done | rfl)
      try simp only [Act.put, List.setIfInBounds_toArray, List.set_cons_zero, List.set_cons_succ]
      -- EFFECT 1 Op.call { callee := Callee.value (Operand.func 36), args := #[Operand.tmp 5], argTypes := #[35] }
      refine wpMono_one' 1 (by kernel_rfl) rfl (by rfl) (fun K hK => ?_)
      go_simp
      refine (right_ref ⟨r, n, t, s, d, zs, se, k, v, gn, l⟩ _ HD.out.drew').mono ?_
      rintro e w1 ⟨rfl, hb1⟩
      rw [Hrt.out]
      have q0 := (HX0.out.drew.below hb1 hxl0).cell 0
      have qg := (HF0.out.blk.drew.below hb1 hgl0).cell 0
      have ql := (HX0.out.drew.below hb1 hxl0).lt
      have qm := (HF0.out.blk.drew.below hb1 hgl0).lt
      simp at q0 qg
      refine hK.out _ _ ?_ ?_
      · exact .of_below hb1
      clear hK K
      try simp only [Act.put, List.setIfInBounds_toArray, List.set_cons_zero, List.set_cons_succ]
      -- 2 Op.unOp UnOp.not 4 (Operand.tmp 6)
      refine wpMono_take' 2 (v := ?_) rfl (by kernel_rfl) (by kernel_rfl) (by kernel_rfl) (fun _ _ _ h => h) (by rfl) ?_ ?_
      rotate_left
      · (intro W hSw; have hcW := hSw.cells; try simp only [World.size_drew, World.cell?_drew] at hcW
         go_simp; first | done | rfl)
      try simp only [Act.put, List.setIfInBounds_toArray, List.set_cons_zero, List.set_cons_succ]
      -- 3 Op.move (Operand.tmp 7)
      refine wpMono_take' 3 (v := ?_) rfl (by kernel_rfl) (by kernel_rfl) (by kernel_rfl) (fun _ _ _ h => h) (by rfl) ?_ ?_
      rotate_left
      · (intro W hSw; have hcW := hSw.cells; try simp only [World.size_drew, World.cell?_drew] at hcW
         go_simp; first | done | rfl)
      try simp only [Act.put, List.setIfInBounds_toArray, List.set_cons_zero, List.set_cons_succ]
      -- 4 Op.fieldAddr 35 (Operand.tmp 3) 0
      refine wpMono_take' 4 (v := ?_) rfl (by kernel_rfl) (by kernel_rfl) (by kernel_rfl) (fun _ _ _ h => h) (by rfl) ?_ ?_
      rotate_left
      · (intro W hSw; have hcW := hSw.cells; try simp only [World.size_drew, World.cell?_drew] at hcW
         go_simp; first | done | rfl)
      try simp only [Act.put, List.setIfInBounds_toArray, List.set_cons_zero, List.set_cons_succ]
      -- 5 Op.load 3 (Operand.tmp 9)
      refine wpMono_take' 5 (v := ?_) rfl (by kernel_rfl) (by kernel_rfl) (by kernel_rfl) (fun _ _ _ h => h) (by rfl) ?_ ?_
      rotate_left
      · (intro W hSw; have hcW := hSw.cells; try simp only [World.size_drew, World.cell?_drew] at hcW
         go_simp; first | done | rfl)
      try simp only [Act.put, List.setIfInBounds_toArray, List.set_cons_zero, List.set_cons_succ]
      -- 6 Op.move (Operand.tmp 0)
      refine wpMono_take' 6 (v := ?_) rfl (by kernel_rfl) (by kernel_rfl) (by kernel_rfl) (fun _ _ _ h => h) (by rfl) ?_ ?_
      rotate_left
      · (intro W hSw; have hcW := hSw.cells; try simp only [World.size_drew, World.cell?_drew] at hcW
         go_simp; first | done | rfl)
      try simp only [Act.put, List.setIfInBounds_toArray, List.set_cons_zero, List.set_cons_succ]
      -- 7 Op.nilCheck (Operand.tmp 11)
      refine wpMono_take' 7 (v := ?_) rfl (by kernel_rfl) (by kernel_rfl) (by kernel_rfl) (fun _ _ _ h => h) (by rfl) ?_ ?_
      rotate_left
      · (intro W hSw; have hcW := hSw.cells; try simp only [World.size_drew, World.cell?_drew] at hcW
         go_simp; first | done | rfl)
      try simp only [Act.put, List.setIfInBounds_toArray, List.set_cons_zero, List.set_cons_succ]
      -- 8 Op.fieldAddr 61 (Operand.tmp 12) 0
      refine wpMono_take' 8 (v := ?_) rfl (by kernel_rfl) (by kernel_rfl) (by kernel_rfl) (fun _ _ _ h => h) (by rfl) ?_ ?_
      rotate_left
      · (intro W hSw; have hcW := hSw.cells; try simp only [World.size_drew, World.cell?_drew] at hcW
         go_simp; first | done | rfl)
      try simp only [Act.put, List.setIfInBounds_toArray, List.set_cons_zero, List.set_cons_succ]
      -- 9 Op.load 3 (Operand.tmp 13)
      refine wpMono_take' 9 (v := ?_) rfl (by kernel_rfl) (by kernel_rfl) (by kernel_rfl) (fun _ _ _ h => h) (by rfl) ?_ ?_
      rotate_left
      · (intro W hSw; have hcW := hSw.cells; try simp only [World.size_drew, World.cell?_drew] at hcW
         go_simp; first | done | rfl)
      try simp only [Act.put, List.setIfInBounds_toArray, List.set_cons_zero, List.set_cons_succ]
      -- 10 Op.binOp BinOp.neq 3 (Operand.tmp 10) (Operand.tmp 14) 3
      refine wpMono_take' 10 (v := ?_) rfl (by kernel_rfl) (by kernel_rfl) (by kernel_rfl) (fun _ _ _ h => h) (by rfl) ?_ ?_
      rotate_left
      · (intro W hSw; have hcW := hSw.cells; try simp only [World.size_drew, World.cell?_drew] at hcW
         go_simp; first | done | rfl)
      try simp only [Act.put, List.setIfInBounds_toArray, List.set_cons_zero, List.set_cons_succ]
      -- 11 Op.pick (Operand.tmp 8) (Operand.const (Value.bool true)) (Operand.tmp 15)
      refine wpMono_take' 11 (v := ?_) rfl (by kernel_rfl) (by kernel_rfl) (by kernel_rfl) (fun _ _ _ h => h) (by rfl) ?_ ?_
      rotate_left
      · (intro W hSw; have hcW := hSw.cells; try simp only [World.size_drew, World.cell?_drew] at hcW
         go_simp; first | done | rfl)
      try simp only [Act.put, List.setIfInBounds_toArray, List.set_cons_zero, List.set_cons_succ]
      refine wpMono_done (by kernel_rfl) ?_ _
      have HB1 := Lib.hid (HB0.out.drew.trans (hb1.mono HB0.out.size))
      have HX1 := Lib.hid (HX0.out.drew.below hb1 hxl0)
      have HF1 := Lib.hid (HF0.out.keeps (X := nobody) (Keeps.drew.trans (.of_below hb1)) (fun _ _ h => h))
      have HD1 := Lib.hid ((HD.out.drew'.below hb1).more hb1.size)
      clear hb1 e0 e1 e2 e3 e4 e5 e6 e7 e8 e9 f0 HX0 HF0 HD HB0
      obtain ⟨e0, e1, e2, e3, e4, e5, e6, e7, e8, e9⟩ := cells10 HX1.out
      have H1 := Lib.hid (show RefS w1 S g rg nn bs L K from H.out.below HB1.out)
      cases hn : (n == (bs : Int) + (L.length : Nat) + 1) with
      | false =>
        have hcode : addC rg bs L ⟨r, n, t, s, d, zs, se, k, v, gn, l⟩ = 15 := by
          unfold addC; rw [Hrt.out]; dsimp only; rw [hr, if_neg (by decide), if_neg (by simp at hn; omega)]
        have dn : (n != (bs : Int) + (L.length : Nat) + 1) = true := by unfold bne; rw [hn]; rfl
        have Hcode := Lib.hid hcode
        clear hcode
        go_wp2_with fail
        refine wp_region_mono nobody (by kernel_rfl) ?_
        -- 0 Op.fieldAddr 35 (Operand.tmp 3) 1
        refine wpMono_take' 0 (v := ?_) rfl (by kernel_rfl) (by kernel_rfl) (by kernel_rfl) (fun _ _ _ h => h) (by rfl) ?_ ?_
        rotate_left
        · (intro W hSw; have hcW := hSw.cells; try simp only [World.size_drew, World.cell?_drew] at hcW
           go_simp; first | done | rfl)
        try simp only [Act.put, List.setIfInBounds_toArray, List.set_cons_zero, List.set_cons_succ]
        -- 1 Op.load 3 (Operand.tmp 17)
        refine wpMono_take' 1 (v := ?_) rfl (by kernel_rfl) (by kernel_rfl) (by kernel_rfl) (fun _ _ _ h => h) (by rfl) ?_ ?_
        rotate_left
        · (intro W hSw; have hcW := hSw.cells; try simp only [World.size_drew, World.cell?_drew] at hcW
           go_simp; first | done | rfl)
        try simp only [Act.put, List.setIfInBounds_toArray, List.set_cons_zero, List.set_cons_succ]
        -- 2 Op.move (Operand.tmp 0)
        refine wpMono_take' 2 (v := ?_) rfl (by kernel_rfl) (by kernel_rfl) (by kernel_rfl) (fun _ _ _ h => h) (by rfl) ?_ ?_
        rotate_left
        · (intro W hSw; have hcW := hSw.cells; try simp only [World.size_drew, World.cell?_drew] at hcW
           go_simp; first | done | rfl)
        try simp only [Act.put, List.setIfInBounds_toArray, List.set_cons_zero, List.set_cons_succ]
        -- EFFECT 3 Op.call { callee := Callee.value (Operand.func 21), args := #[Operand.tmp 19], argTypes := #[50] }
        refine wpMono_one' 3 (by kernel_rfl) rfl (by rfl) (fun K hK => ?_)
        go_simp
        refine (last_ref (H1.out.keeps (X := nobody) Keeps.drew (fun _ _ h => h))).mono ?_
        rintro e w2 ⟨rfl, hb2⟩
        refine hK.out _ _ ?_ ?_
        · exact .of_below hb2
        clear hK K
        try simp only [Act.put, List.setIfInBounds_toArray, List.set_cons_zero, List.set_cons_succ]
        -- 4 Op.binOp BinOp.add 3 (Operand.tmp 20) (Operand.const (Value.int IntKind.i64 1)) 3
        refine wpMono_take' 4 (v := ?_) rfl (by kernel_rfl) (by kernel_rfl) (by kernel_rfl) (fun _ _ _ h => h) (by rfl) ?_ ?_
        rotate_left
        · (intro W hSw; have hcW := hSw.cells; try simp only [World.size_drew, World.cell?_drew] at hcW
           go_simp; first | done | rfl)
        try simp only [Act.put, List.setIfInBounds_toArray, List.set_cons_zero, List.set_cons_succ]
        -- 5 Op.binOp BinOp.neq 3 (Operand.tmp 18) (Operand.tmp 21) 3
        refine wpMono_take' 5 (v := ?_) rfl (by kernel_rfl) (by kernel_rfl) (by kernel_rfl) (fun _ _ _ h => h) (by rfl) ?_ ?_
        rotate_left
        · (intro W hSw; have hcW := hSw.cells; try simp only [World.size_drew, World.cell?_drew] at hcW
           go_simp; first | done | rfl)
        try simp only [Act.put, List.setIfInBounds_toArray, List.set_cons_zero, List.set_cons_succ]
        refine wpMono_done (by kernel_rfl) ?_ _
        have HB2 := Lib.hid (HB1.out.drew.trans (hb2.mono HB1.out.size))
        clear hb2
        go_wp2
        go_ret
        exact ⟨ret_int Hcode.out.symm, .of_below HB2.out, S, by unfold addL; rw [Hcode.out, if_neg (by decide)]; exact H.out.below HB2.out, fun i hi => .inl hi⟩
      | true =>
        have dn : (n != (bs : Int) + (L.length : Nat) + 1) = false := by unfold bne; rw [hn]; rfl
        have hnn : n = (bs : Int) + (L.length : Nat) + 1 := by simpa using hn
        have hcode : addC rg bs L ⟨r, n, t, s, d, zs, se, k, v, gn, l⟩ = 0 := by
          unfold addC; rw [Hrt.out]; dsimp only; rw [hr, if_neg (by decide), if_pos (by omega)]
        have hn2 := (right_parts Hrt.out).n1
        dsimp only at hn2
        have Hlast2 := Lib.hid (show bs + (L'.length + 1) ≤ 1099511627776 by omega)
        have Hcode := Lib.hid hcode
        have Hnn := Lib.hid hnn
        have Hn2 := Lib.hid hn2
        clear hcode hnn hn2
        go_wp2_with fail
        refine wp_region_mono nobody (by kernel_rfl) ?_
        -- 0 Op.fieldAddr 35 (Operand.tmp 3) 1
        refine wpMono_take' 0 (v := ?_) rfl (by kernel_rfl) (by kernel_rfl) (by kernel_rfl) (fun _ _ _ h => h) (by rfl) ?_ ?_
        rotate_left
        · (intro W hSw; have hcW := hSw.cells; try simp only [World.size_drew, World.cell?_drew] at hcW
           go_simp; first | done | rfl)
        try simp only [Act.put, List.setIfInBounds_toArray, List.set_cons_zero, List.set_cons_succ]
        -- 1 Op.load 3 (Operand.tmp 17)
        refine wpMono_take' 1 (v := ?_) rfl (by kernel_rfl) (by kernel_rfl) (by kernel_rfl) (fun _ _ _ h => h) (by rfl) ?_ ?_
        rotate_left
        · (intro W hSw; have hcW := hSw.cells; try simp only [World.size_drew, World.cell?_drew] at hcW
           go_simp; first | done | rfl)
        try simp only [Act.put, List.setIfInBounds_toArray, List.set_cons_zero, List.set_cons_succ]
        -- 2 Op.move (Operand.tmp 0)
        refine wpMono_take' 2 (v := ?_) rfl (by kernel_rfl) (by kernel_rfl) (by kernel_rfl) (fun _ _ _ h => h) (by rfl) ?_ ?_
        rotate_left
        · (intro W hSw; have hcW := hSw.cells; try simp only [World.size_drew, World.cell?_drew] at hcW
           go_simp; first | done | rfl)
        try simp only [Act.put, List.setIfInBounds_toArray, List.set_cons_zero, List.set_cons_succ]
        -- EFFECT 3 Op.call { callee := Callee.value (Operand.func 21), args := #[Operand.tmp 19], argTypes := #[50] }
        refine wpMono_one' 3 (by kernel_rfl) rfl (by rfl) (fun K hK => ?_)
        go_simp
        refine (last_ref (H1.out.keeps (X := nobody) Keeps.drew (fun _ _ h => h))).mono ?_
        rintro e w2 ⟨rfl, hb2⟩
        refine hK.out _ _ ?_ ?_
        · exact .of_below hb2
        clear hK K
        try simp only [Act.put, List.setIfInBounds_toArray, List.set_cons_zero, List.set_cons_succ]
        -- 4 Op.binOp BinOp.add 3 (Operand.tmp 20) (Operand.const (Value.int IntKind.i64 1)) 3
        refine wpMono_take' 4 (v := ?_) rfl (by kernel_rfl) (by kernel_rfl) (by kernel_rfl) (fun _ _ _ h => h) (by rfl) ?_ ?_
        rotate_left
        · (intro W hSw; have hcW := hSw.cells; try simp only [World.size_drew, World.cell?_drew] at hcW
           go_simp; first | done | rfl)
        try simp only [Act.put, List.setIfInBounds_toArray, List.set_cons_zero, List.set_cons_succ]
        -- 5 Op.binOp BinOp.neq 3 (Operand.tmp 18) (Operand.tmp 21) 3
        refine wpMono_take' 5 (v := ?_) rfl (by kernel_rfl) (by kernel_rfl) (by kernel_rfl) (fun _ _ _ h => h) (by rfl) ?_ ?_
        rotate_left
        · (intro W hSw; have hcW := hSw.cells; try simp only [World.size_drew, World.cell?_drew] at hcW
           go_simp; first | done | rfl)
        try simp only [Act.put, List.setIfInBounds_toArray, List.set_cons_zero, List.set_cons_succ]
        refine wpMono_done (by kernel_rfl) ?_ _
        have HB2 := Lib.hid (HB1.out.drew.trans (hb2.mono HB1.out.size))
        have HX2 := Lib.hid (HX1.out.drew.below hb2 ql)
        have HF2 := Lib.hid (HF1.out.keeps (X := nobody) (Keeps.drew.trans (.of_below hb2)) (fun _ _ h => h))
        have hd2 := (HD1.out.drew'.below hb2).more hb2.size
        have hsz2 := HB2.out.size
        have hxl2 := HX2.out.lt
        clear hb2 e0 e1 e2 e3 e4 e5 e6 e7 e8 e9 q0 qg hlast HX1 HF1 HD1
        obtain ⟨Ad, md, cd, rfl, hzl, hzm, hzr⟩ := hd2
        have hone : ∀ u ∈ zs.map (Value.int .i64), u.oneCell' = true := by
          intro u hu
          obtain ⟨z, _, rfl⟩ := List.mem_map.1 hu
          rfl
        have q4 : w2.cell? ⟨w.heap.size, 4, none⟩ = _ := HX2.out.cell 4
        simp at q4
        have Hzr := Lib.hid hzr
        have Hzl := Lib.hid hzl
        have Hone := Lib.hid hone
        clear hzr hzl hone
        go_wp2_with (at_builtin; refine wpList_append_two rfl (.tmp 23) (.tmp 25) 32 33 rfl w2.heap.size 3 3 i1 _ 1 8 Try.underlying32 Try.underlying33 hi1 hy0 hy1 hy2 rfl (by decide) (.slice (some ⟨w2.heap.size, 0, none⟩) 0 0) 0 [] rfl (ownsRow_new0 _ _ _ _) w2.heap.size Ad md cd _ rfl (Hzr.out.alloc (Nat.le_refl _) _) Hone.out (by unfold maxLen; have := Hzl.out; omega) (by have := Hzl.out; omega) (by simp) ?_; intro v3 w3 hown3 hg3 ho3; simp only [Nat.zero_add, List.nil_append] at hown3; obtain ⟨A2, c2, rfl⟩ := ownsRow_slice hown3; have hb3 : Below w2.heap.size w2 w3 := (below_new w2 (.cells #[] 3)).trans ((Keeps.grown (X := fun i => w2.heap.size ≤ i) hg3 (fun g hg => .inl (by simp [Value.ownBlock] at hg; omega))).below (fun i hi e => by omega) (by simp)); have hx3 := HX2.out.below hb3 hxl2; have p4 : w3.cell? ⟨w.heap.size, 4, none⟩ = some (.slice Ad md cd) := hx3.cell 4; have pf := hx3.frozen 4; have pl := hx3.lt; have HX3 := Lib.hid hx3; have HB3 := Lib.hid hb3; have Hown3 := Lib.hid hown3; clear hown3 hg3 ho3 hb3 hx3)
        have hSl := HSl.out
        have hgx3 : Keeps (· = w.heap.size) w3 (w3.setCell ⟨w.heap.size, 4, none⟩ (.slice A2 md c2)) := Keeps.set1 w3 w.heap.size 4 _
        have HF4 := Lib.hid ((HF2.out.keeps (X := nobody) (.of_below HB3.out) (fun _ _ h => h)).keeps hgx3 (fun i hi e => by have := hSl i hi; omega))
        have hx4 : Blk (w3.setCell ⟨w.heap.size, 4, none⟩ (.slice A2 md c2)) w.heap.size 35 #[.int .i64 r, .int .i64 n, .int .i64 t, .int .i64 s, .slice A2 md c2, .string se, .string k, .string v, .bool gn, .int .i64 l] := by
          have := HX3.out.set_ 4 (.slice A2 md c2)
          simpa using this
        have HX4 := Lib.hid hx4
        have HN4 := Lib.hid (show NumsO (w3.setCell ⟨w.heap.size, 4, none⟩ (.slice A2 md c2)) w2.heap.size (.slice A2 md c2) zs from
          ⟨by rw [Hzl.out]; exact ow_keeps' Hown3.out hgx3 (fun i hi e => by have := (Hown3.out.lt _ hi).1; omega), hz6⟩)
        have HB4 := Lib.hid ((HB2.out.trans (HB3.out.mono hsz2)).setCell (p := ⟨w.heap.size, 4, none⟩) (Nat.le_refl _) (.slice A2 md c2))
        have hs4 : w2.heap.size ≤ (w3.setCell ⟨w.heap.size, 4, none⟩ (.slice A2 md c2)).heap.size := by have := HB3.out.size; simpa using this
        have hxl4 : w.heap.size < (w3.setCell ⟨w.heap.size, 4, none⟩ (.slice A2 md c2)).heap.size := HX4.out.lt
        clear hx4 hgx3 HX3 HX2 HF2 Hown3 HB3 q4 p4 pf
        generalize w3.setCell ⟨w.heap.size, 4, none⟩ (.slice A2 md c2) = w4 at *
        have c3 : w4.cell? ⟨g, 3, none⟩ = _ := HF4.out.blk.cell 3
        have hgl4 := HF4.out.blk.lt
        simp at c3
        have hgx : g ≠ w.heap.size := by have := hSl g HF4.out.inG; omega
        have hrL := HF4.out.rl.row
        rw [hL2] at hrL
        have HrL := Lib.hid hrL
        have honeL : ∀ u ∈ L'.flatMap Wr.cells, u.oneCell' = true := by
          intro u hu
          obtain ⟨x, hx, hu⟩ := List.mem_flatMap.1 hu
          exact oneW x (nums_one (HF4.out.rl.nums x hx).nums) u hu
        have HoneL := Lib.hid honeL
        clear hrL honeL
        go_wp2_with fail
        have Hk0 := Lib.hid (Keeps.drew (X := nobody) (w := w4))
        refine wp_region_monoJ (fun b => b ≠ w.heap.size) [6, 9, 12] (by kernel_rfl) ?_
        -- 0 Op.move (Operand.tmp 0)
        refine wpMonoJ_take' 0 (v := ?_) rfl (by kernel_rfl) (by kernel_rfl) (by kernel_rfl) (by rfl) (fun _ _ _ h => h) (by rfl) ?_ ?_
        rotate_left
        · (intro W hSw; first | (have hcW := hSw.cells; try simp only [World.size_drew, World.cell?_drew] at hcW) | (have hxW := HX4.out.drew.keeps hSw (fun h => h rfl); obtain ⟨e0, e1, e2, e3, e4, e5, e6, e7, e8, e9⟩ := cells10 hxW) | skip
           go_simp; first | done | rfl)
        try simp only [Act.put, List.setIfInBounds_toArray, List.set_cons_zero, List.set_cons_succ]
        -- 2 Op.move (Operand.tmp 0)
        refine wpMonoJ_take' 2 (v := ?_) rfl (by kernel_rfl) (by kernel_rfl) (by kernel_rfl) (by rfl) (fun _ _ _ h => h) (by rfl) ?_ ?_
        rotate_left
        · (intro W hSw; first | (have hcW := hSw.cells; try simp only [World.size_drew, World.cell?_drew] at hcW) | (have hxW := HX4.out.drew.keeps hSw (fun h => h rfl); obtain ⟨e0, e1, e2, e3, e4, e5, e6, e7, e8, e9⟩ := cells10 hxW) | skip
           go_simp; first | done | rfl)
        try simp only [Act.put, List.setIfInBounds_toArray, List.set_cons_zero, List.set_cons_succ]
        -- 3 Op.nilCheck (Operand.tmp 30)
        refine wpMonoJ_take' 3 (v := ?_) rfl (by kernel_rfl) (by kernel_rfl) (by kernel_rfl) (by rfl) (fun _ _ _ h => h) (by rfl) ?_ ?_
        rotate_left
        · (intro W hSw; first | (have hcW := hSw.cells; try simp only [World.size_drew, World.cell?_drew] at hcW) | (have hxW := HX4.out.drew.keeps hSw (fun h => h rfl); obtain ⟨e0, e1, e2, e3, e4, e5, e6, e7, e8, e9⟩ := cells10 hxW) | skip
           go_simp; first | done | rfl)
        try simp only [Act.put, List.setIfInBounds_toArray, List.set_cons_zero, List.set_cons_succ]
        -- 4 Op.fieldAddr 61 (Operand.tmp 31) 3
        refine wpMonoJ_take' 4 (v := ?_) rfl (by kernel_rfl) (by kernel_rfl) (by kernel_rfl) (by rfl) (fun _ _ _ h => h) (by rfl) ?_ ?_
        rotate_left
        · (intro W hSw; first | (have hcW := hSw.cells; try simp only [World.size_drew, World.cell?_drew] at hcW) | (have hxW := HX4.out.drew.keeps hSw (fun h => h rfl); obtain ⟨e0, e1, e2, e3, e4, e5, e6, e7, e8, e9⟩ := cells10 hxW) | skip
           go_simp; first | done | rfl)
        try simp only [Act.put, List.setIfInBounds_toArray, List.set_cons_zero, List.set_cons_succ]
        -- 5 Op.load 41 (Operand.tmp 32)
        refine wpMonoJ_read' 5 [6, 9, 10, 11, 12] (v := ?_) rfl (by kernel_rfl) (by kernel_rfl) (by kernel_rfl) (by rfl) (by kernel_rfl) (by rfl) (fun _ _ _ h => h) (by rfl) ?_ ?_
        rotate_left
        · (intro W hSw; first | (have hcW := hSw.cells; try simp only [World.size_drew, World.cell?_drew] at hcW) | (have hxW := HX4.out.drew.keeps hSw (fun h => h rfl); obtain ⟨e0, e1, e2, e3, e4, e5, e6, e7, e8, e9⟩ := cells10 hxW) | skip
           go_simp; first | done | rfl)
        try simp only [Act.put, List.setIfInBounds_toArray, List.set_cons_zero, List.set_cons_succ]
        -- 7 Op.load 35 (Operand.tmp 3)
        refine wpMonoJ_take' 7 (v := ?_) rfl (by kernel_rfl) (by kernel_rfl) (by kernel_rfl) (by rfl) (fun _ _ _ h => h) (by rfl) ?_ ?_
        rotate_left
        · (intro W hSw; first | (have hcW := hSw.cells; try simp only [World.size_drew, World.cell?_drew] at hcW) | (have hxW := HX4.out.drew.keeps hSw (fun h => h rfl); obtain ⟨e0, e1, e2, e3, e4, e5, e6, e7, e8, e9⟩ := cells10 hxW) | skip
           go_simp; first | done | rfl)
        try simp only [Act.put, List.setIfInBounds_toArray, List.set_cons_zero, List.set_cons_succ]
        refine wpMonoJ_two' 1 8 (by kernel_rfl) rfl (by rfl) rfl (by rfl) (fun K hK => ?_) (fun K hK => ?_)
        · skip
          go_simp
          have hrow : (w4.alloc (.cells #[] 35)).drew.ownsRow w4.heap.size 35 10 (.slice (some ⟨w4.heap.size, 0, none⟩) 0 0) 0 [] := ow_keeps' (ownsRow_new0 w4 35 10 #[]) (X := nobody) Keeps.drew (fun _ _ h => h)
          have hbw : Below w4.heap.size w4 (w4.alloc (.cells #[] 35)).drew := (below_new w4 _).drew
          refine hK.out _ _ ⟨rfl, rfl, rfl, by simp, fun i hi _ => Below.heap_alloc w4 _ i hi⟩ ?_
          clear hK K
          try simp only [Act.put, List.setIfInBounds_toArray, List.set_cons_zero, List.set_cons_succ]
          generalize (w4.alloc (.cells #[] 35)).drew = W1 at *
          have Hrow := Lib.hid hrow
          have HBW := Lib.hid hbw
          clear hrow hbw
          refine wpMonoJ_two' 6 8 (by kernel_rfl) rfl (by rfl) rfl (by rfl) (fun K hK => ?_) (fun K hK => ?_)
          · skip
            have hr6 : Reads W1 w4.heap.size 10 A L.length (L'.flatMap Wr.cells) := HrL.out.below HBW.out
            refine wp_append_any _ (.tmp 29) (.tmp 33) _ (by rfl) w4.heap.size 35 i0 _ 10 120 Try.underlying41 hi0 hz0 hz1 hz2 rfl (by omega) (.slice (some ⟨w4.heap.size, 0, none⟩) 0 0) 0 [] (by rfl) Hrow.out w4.heap.size A L.length c _ (by rfl) hr6 HoneL.out (by unfold maxLen; omega) (by omega) HBW.out.size fun v6 w6 ho6 hg6 hv6 => ?_
            simp only [Nat.zero_add, List.nil_append] at ho6
            obtain ⟨A6, c6, rfl⟩ := ownsRow_slice ho6
            have hb6 : Below w4.heap.size w4 w6 := HBW.out.trans ((Keeps.grown (X := fun i => w4.heap.size ≤ i) hg6 (fun i hi => .inl (Hrow.out.lt _ hi).1)).below (fun i hi e => by omega) HBW.out.size)
            have hgr6 : ∀ i, (Value.slice (some ⟨w4.heap.size, 0, none⟩) 0 0).ownBlock = some i → i ≠ w.heap.size := fun i hi => by have := (Hrow.out.lt _ hi).1; omega
            have Ho6 := Lib.hid ho6
            have Hb6 := Lib.hid hb6
            have Hg6 := Lib.hid hg6
            clear hr6 ho6 hb6
            refine hK.out _ _ (moved (.grown hg6 fun i hi => .inl (hgr6 i hi)) (by decide)) ?_
            clear hK K
            try simp only [Act.put, List.setIfInBounds_toArray, List.set_cons_zero, List.set_cons_succ]
            clear hg6 hv6 hgr6
            refine wpMonoJ_one' 8 (by kernel_rfl) rfl (by rfl) (fun K hK => ?_)
            clear HBW
            have HBW := Hb6
            go_simp
            have hb8 : Below (w6).heap.size w6 ((w6).alloc (.cells #[.int .i64 r, .int .i64 n, .int .i64 t, .int .i64 s, .slice A2 md c2, .string se, .string k, .string v, .bool gn, .int .i64 l] 35)) := below_new _ _
            have H8 := Lib.hid (Blk.new w6 35 #[.int .i64 r, .int .i64 n, .int .i64 t, .int .i64 s, .slice A2 md c2, .string se, .string k, .string v, .bool gn, .int .i64 l])
            have HBV := Lib.hid (HBW.out.trans (hb8.mono HBW.out.size))
            refine hK.out _ _ (Keeps.alloc _) ?_
            clear hK K
            try simp only [Act.put, List.setIfInBounds_toArray, List.set_cons_zero, List.set_cons_succ]
            have ho7 := own_below Ho6.out hb8
            have h8 := H8.out
            have hbv := HBV.out
            clear hb8 H8 HBV HBW Ho6 Hg6 Hb6 Hrow
            generalize w6.alloc (.cells #[.int .i64 r, .int .i64 n, .int .i64 t, .int .i64 s, .slice A2 md c2, .string se, .string k, .string v, .bool gn, .int .i64 l] 35) = V at *
            have Ho6 := Lib.hid ho7
            have H8 := Lib.hid h8
            have HBW := Lib.hid hbv
            clear ho7 h8 hbv
            refine wpMonoJ_one' 9 (by kernel_rfl) rfl (by rfl) (fun K hK => ?_)
            have hr9 := Reads.of_blk (n := 1) (size := 10) H8.out rfl
            refine wp_append_any _ (.tmp 34) (.tmp 36) _ (by rfl) w4.heap.size 35 i0 _ 10 120 Try.underlying41 hi0 hz0 hz1 hz2 rfl (by omega) (.slice A6 L.length c6) L.length _ (by rfl) Ho6.out _ _ 1 1 (Wr.cells ⟨r, n, t, s, .slice A2 md c2, zs, se, k, v, gn, l⟩) (by rfl) hr9 (oneW _ rfl) (by unfold maxLen; omega) (by omega) HBW.out.size fun v9 w9 ho9 hg9 hv9 => ?_
            obtain ⟨A9, c9, rfl⟩ := ownsRow_slice ho9
            have Hb9 := Lib.hid (HBW.out.trans ((Keeps.grown (X := fun i => w4.heap.size ≤ i) hg9 (fun i hi => .inl (Ho6.out.lt _ hi).1)).below (fun i hi e => by omega) HBW.out.size))
            have hgr9 : ∀ i, (Value.slice A6 L.length c6).ownBlock = some i → i ≠ w.heap.size := fun i hi => by have := (Ho6.out.lt _ hi).1; omega
            have Ho9 := Lib.hid ho9
            refine hK.out _ _ (moved (.grown hg9 fun i hi => .inl (hgr9 i hi)) (by decide)) ?_
            clear hK K
            try simp only [Act.put, List.setIfInBounds_toArray, List.set_cons_zero, List.set_cons_succ]
            clear hr9 ho9 hg9 hv9 hgr9
            have hf9 := HF4.out.keeps (X := nobody) (.of_below Hb9.out) (fun _ _ h => h)
            have p3 : w9.cell? ⟨g, 3, none⟩ = _ := hf9.blk.cell 3
            have pf := hf9.blk.frozen 3
            have pl9 := hf9.blk.lt
            simp at p3
            have HF9 := Lib.hid hf9
            clear hf9
            refine wpMonoJ_take' 10 (v := ?_) rfl (by kernel_rfl) (by kernel_rfl) (by kernel_rfl) (by rfl) (fun _ _ _ h => h) (by rfl) ?_ ?_
            rotate_left
            · (intro W hSw
               go_simp; first | done | rfl)
            try simp only [Act.put, List.setIfInBounds_toArray, List.set_cons_zero, List.set_cons_succ]
            refine wpMonoJ_take' 11 (v := ?_) rfl (by kernel_rfl) (by kernel_rfl) (by kernel_rfl) (by rfl) (fun _ _ _ h => h) (by rfl) ?_ ?_
            rotate_left
            · (intro W hSw
               go_simp; first | done | rfl)
            try simp only [Act.put, List.setIfInBounds_toArray, List.set_cons_zero, List.set_cons_succ]
            refine wpMonoJ_one' 12 (by kernel_rfl) rfl (by rfl) (fun K hK => ?_)
            go_simp
            refine hK.out _ _ (moved (.setCell (.inl hgx) _) (by decide)) ?_
            clear hK K
            try simp only [Act.put, List.setIfInBounds_toArray, List.set_cons_zero, List.set_cons_succ]
            refine wpMonoJ_done (by kernel_rfl) ?_ _
            rw [← hL2] at Ho9
            have hP := HF9.out.push (x := ⟨r, n, t, s, .slice A2 md c2, zs, se, k, v, gn, l⟩) (B := w2.heap.size) (HN4.out.below Hb9.out) (by
              have := HF4.out.k0lt
              have := hSl k0 HF4.out.inK
              omega) (by
              have h := Ho9.out
              refine ⟨h.1, h.2.imp id ?_⟩
              rintro ⟨g', cap, cur, e, h5, h6⟩
              exact ⟨g', cap, cur, e, by omega, h6⟩) (by omega) Hlast2.out
            have hkk : Keeps S w (w9.setCell ⟨g, 3, none⟩ (.slice A9 (L'.length + 1) c9)) := ((Keeps.of_below HB4.out).trans (.of_below Hb9.out)).trans (.setCell (.inl HF9.out.inG) _)
            have HR := Lib.hid (show AddRR S g rg nn bs L K ⟨r, n, t, s, .slice Ad md cd, zs, se, k, v, gn, l⟩ w (.returned (.int .i64 0)) (w9.setCell ⟨g, 3, none⟩ (.slice A9 (L'.length + 1) c9)) from
              ⟨ret_int Hcode.out.symm, hkk, fun i => (S i ∨ w2.heap.size ≤ i) ∧ i < w9.heap.size, ⟨_, A9, c9, k0, ck, by unfold addL; rw [Hcode.out, if_pos rfl, List.map_append, hLL]; rfl, hP⟩, fun i hi => hi.1.imp id fun h => Nat.le_trans hsz2 h⟩)
            rw [hL2] at HR
            clear hP hkk
            go_wp2
            go_ret
            exact HR.out
          · skip
            go_simp
            have hb8 : Below (W1).heap.size W1 ((W1).alloc (.cells #[.int .i64 r, .int .i64 n, .int .i64 t, .int .i64 s, .slice A2 md c2, .string se, .string k, .string v, .bool gn, .int .i64 l] 35)) := below_new _ _
            have H8 := Lib.hid (Blk.new W1 35 #[.int .i64 r, .int .i64 n, .int .i64 t, .int .i64 s, .slice A2 md c2, .string se, .string k, .string v, .bool gn, .int .i64 l])
            have HBV := Lib.hid (HBW.out.trans (hb8.mono HBW.out.size))
            refine hK.out _ _ (Keeps.alloc _) ?_
            clear hK K
            try simp only [Act.put, List.setIfInBounds_toArray, List.set_cons_zero, List.set_cons_succ]
            have hrow := own_below Hrow.out hb8
            have h8 := H8.out
            have hbv := HBV.out
            have hne : W1.heap.size ≠ w4.heap.size := by have h : w4.heap.size < W1.heap.size := (Hrow.out.lt _ rfl).2; omega
            clear hb8 H8 HBV HBW Hrow
            generalize W1.alloc (.cells #[.int .i64 r, .int .i64 n, .int .i64 t, .int .i64 s, .slice A2 md c2, .string se, .string k, .string v, .bool gn, .int .i64 l] 35) = V at *
            have Hrow := Lib.hid hrow
            have H8 := Lib.hid h8
            have HBW := Lib.hid hbv
            clear hrow h8 hbv
            refine wpMonoJ_one' 6 (by kernel_rfl) rfl (by rfl) (fun K hK => ?_)
            have hr6 : Reads V w4.heap.size 10 A L.length (L'.flatMap Wr.cells) := HrL.out.below HBW.out
            refine wp_append_any _ (.tmp 29) (.tmp 33) _ (by rfl) w4.heap.size 35 i0 _ 10 120 Try.underlying41 hi0 hz0 hz1 hz2 rfl (by omega) (.slice (some ⟨w4.heap.size, 0, none⟩) 0 0) 0 [] (by rfl) Hrow.out w4.heap.size A L.length c _ (by rfl) hr6 HoneL.out (by unfold maxLen; omega) (by omega) HBW.out.size fun v6 w6 ho6 hg6 hv6 => ?_
            simp only [Nat.zero_add, List.nil_append] at ho6
            obtain ⟨A6, c6, rfl⟩ := ownsRow_slice ho6
            have hb6 : Below w4.heap.size w4 w6 := HBW.out.trans ((Keeps.grown (X := fun i => w4.heap.size ≤ i) hg6 (fun i hi => .inl (Hrow.out.lt _ hi).1)).below (fun i hi e => by omega) HBW.out.size)
            have hgr6 : ∀ i, (Value.slice (some ⟨w4.heap.size, 0, none⟩) 0 0).ownBlock = some i → i ≠ w.heap.size := fun i hi => by have := (Hrow.out.lt _ hi).1; omega
            have Ho6 := Lib.hid ho6
            have Hb6 := Lib.hid hb6
            have Hg6 := Lib.hid hg6
            clear hr6 ho6 hb6
            refine hK.out _ _ (moved (.grown hg6 fun i hi => .inl (hgr6 i hi)) (by decide)) ?_
            clear hK K
            try simp only [Act.put, List.setIfInBounds_toArray, List.set_cons_zero, List.set_cons_succ]
            clear hg6 hv6 hgr6
            have h8 := H8.out.grown Hg6.out (fun e => by injection e with e; exact hne e)
            clear H8 HBW
            have H8 := Lib.hid h8
            have HBW := Hb6
            clear h8
            refine wpMonoJ_one' 9 (by kernel_rfl) rfl (by rfl) (fun K hK => ?_)
            have hr9 := Reads.of_blk (n := 1) (size := 10) H8.out rfl
            refine wp_append_any _ (.tmp 34) (.tmp 36) _ (by rfl) w4.heap.size 35 i0 _ 10 120 Try.underlying41 hi0 hz0 hz1 hz2 rfl (by omega) (.slice A6 L.length c6) L.length _ (by rfl) Ho6.out _ _ 1 1 (Wr.cells ⟨r, n, t, s, .slice A2 md c2, zs, se, k, v, gn, l⟩) (by rfl) hr9 (oneW _ rfl) (by unfold maxLen; omega) (by omega) HBW.out.size fun v9 w9 ho9 hg9 hv9 => ?_
            obtain ⟨A9, c9, rfl⟩ := ownsRow_slice ho9
            have Hb9 := Lib.hid (HBW.out.trans ((Keeps.grown (X := fun i => w4.heap.size ≤ i) hg9 (fun i hi => .inl (Ho6.out.lt _ hi).1)).below (fun i hi e => by omega) HBW.out.size))
            have hgr9 : ∀ i, (Value.slice A6 L.length c6).ownBlock = some i → i ≠ w.heap.size := fun i hi => by have := (Ho6.out.lt _ hi).1; omega
            have Ho9 := Lib.hid ho9
            refine hK.out _ _ (moved (.grown hg9 fun i hi => .inl (hgr9 i hi)) (by decide)) ?_
            clear hK K
            try simp only [Act.put, List.setIfInBounds_toArray, List.set_cons_zero, List.set_cons_succ]
            clear hr9 ho9 hg9 hv9 hgr9
            have hf9 := HF4.out.keeps (X := nobody) (.of_below Hb9.out) (fun _ _ h => h)
            have p3 : w9.cell? ⟨g, 3, none⟩ = _ := hf9.blk.cell 3
            have pf := hf9.blk.frozen 3
            have pl9 := hf9.blk.lt
            simp at p3
            have HF9 := Lib.hid hf9
            clear hf9
            refine wpMonoJ_take' 10 (v := ?_) rfl (by kernel_rfl) (by kernel_rfl) (by kernel_rfl) (by rfl) (fun _ _ _ h => h) (by rfl) ?_ ?_
            rotate_left
            · (intro W hSw
               go_simp; first | done | rfl)
            try simp only [Act.put, List.setIfInBounds_toArray, List.set_cons_zero, List.set_cons_succ]
            refine wpMonoJ_take' 11 (v := ?_) rfl (by kernel_rfl) (by kernel_rfl) (by kernel_rfl) (by rfl) (fun _ _ _ h => h) (by rfl) ?_ ?_
            rotate_left
            · (intro W hSw
               go_simp; first | done | rfl)
            try simp only [Act.put, List.setIfInBounds_toArray, List.set_cons_zero, List.set_cons_succ]
            refine wpMonoJ_one' 12 (by kernel_rfl) rfl (by rfl) (fun K hK => ?_)
            go_simp
            refine hK.out _ _ (moved (.setCell (.inl hgx) _) (by decide)) ?_
            clear hK K
            try simp only [Act.put, List.setIfInBounds_toArray, List.set_cons_zero, List.set_cons_succ]
            refine wpMonoJ_done (by kernel_rfl) ?_ _
            rw [← hL2] at Ho9
            have hP := HF9.out.push (x := ⟨r, n, t, s, .slice A2 md c2, zs, se, k, v, gn, l⟩) (B := w2.heap.size) (HN4.out.below Hb9.out) (by
              have := HF4.out.k0lt
              have := hSl k0 HF4.out.inK
              omega) (by
              have h := Ho9.out
              refine ⟨h.1, h.2.imp id ?_⟩
              rintro ⟨g', cap, cur, e, h5, h6⟩
              exact ⟨g', cap, cur, e, by omega, h6⟩) (by omega) Hlast2.out
            have hkk : Keeps S w (w9.setCell ⟨g, 3, none⟩ (.slice A9 (L'.length + 1) c9)) := ((Keeps.of_below HB4.out).trans (.of_below Hb9.out)).trans (.setCell (.inl HF9.out.inG) _)
            have HR := Lib.hid (show AddRR S g rg nn bs L K ⟨r, n, t, s, .slice Ad md cd, zs, se, k, v, gn, l⟩ w (.returned (.int .i64 0)) (w9.setCell ⟨g, 3, none⟩ (.slice A9 (L'.length + 1) c9)) from
              ⟨ret_int Hcode.out.symm, hkk, fun i => (S i ∨ w2.heap.size ≤ i) ∧ i < w9.heap.size, ⟨_, A9, c9, k0, ck, by unfold addL; rw [Hcode.out, if_pos rfl, List.map_append, hLL]; rfl, hP⟩, fun i hi => hi.1.imp id fun h => Nat.le_trans hsz2 h⟩)
            rw [hL2] at HR
            clear hP hkk
            go_wp2
            go_ret
            exact HR.out
        · skip
          go_simp
          have h8 : Blk (w4.alloc (.cells #[.int .i64 r, .int .i64 n, .int .i64 t, .int .i64 s, .slice A2 md c2, .string se, .string k, .string v, .bool gn, .int .i64 l] 35)).drew w4.heap.size 35 #[.int .i64 r, .int .i64 n, .int .i64 t, .int .i64 s, .slice A2 md c2, .string se, .string k, .string v, .bool gn, .int .i64 l] := (Blk.new w4 35 #[.int .i64 r, .int .i64 n, .int .i64 t, .int .i64 s, .slice A2 md c2, .string se, .string k, .string v, .bool gn, .int .i64 l]).drew
          have hbw : Below w4.heap.size w4 (w4.alloc (.cells #[.int .i64 r, .int .i64 n, .int .i64 t, .int .i64 s, .slice A2 md c2, .string se, .string k, .string v, .bool gn, .int .i64 l] 35)).drew := (below_new w4 _).drew
          refine hK.out _ _ ⟨rfl, rfl, rfl, by simp, fun i hi _ => Below.heap_alloc w4 _ i hi⟩ ?_
          clear hK K
          try simp only [Act.put, List.setIfInBounds_toArray, List.set_cons_zero, List.set_cons_succ]
          generalize (w4.alloc (.cells #[.int .i64 r, .int .i64 n, .int .i64 t, .int .i64 s, .slice A2 md c2, .string se, .string k, .string v, .bool gn, .int .i64 l] 35)).drew = V1 at *
          refine wpMonoJ_one' 1 (by kernel_rfl) rfl (by rfl) (fun K hK => ?_)
          go_simp
          have hrow : (V1.alloc (.cells #[] 35)).ownsRow w4.heap.size 35 10 (.slice (some ⟨V1.heap.size, 0, none⟩) 0 0) 0 [] := by
            obtain ⟨q1, q2⟩ := ownsRow_new0 V1 35 10 #[] (n := 0)
            refine ⟨q1, q2.imp id ?_⟩
            rintro ⟨g', cap, cur, e, q3, q4⟩
            exact ⟨g', cap, cur, e, Nat.le_trans hbw.size q3, q4⟩
          have hbv : Below w4.heap.size w4 (V1.alloc (.cells #[] 35)) := hbw.alloc hbw.size _
          have h8' := h8.alloc (.cells #[] 35)
          have hne : w4.heap.size ≠ V1.heap.size := by have := h8.lt; omega
          refine hK.out _ _ (Keeps.alloc _) ?_
          clear hK K
          try simp only [Act.put, List.setIfInBounds_toArray, List.set_cons_zero, List.set_cons_succ]
          clear h8 hbw
          generalize V1.alloc (.cells #[] 35) = V at *
          have Hrow := Lib.hid hrow
          have H8 := Lib.hid h8'
          have HBW := Lib.hid hbv
          clear hrow h8' hbv
          refine wpMonoJ_one' 6 (by kernel_rfl) rfl (by rfl) (fun K hK => ?_)
          have hr6 : Reads V w4.heap.size 10 A L.length (L'.flatMap Wr.cells) := HrL.out.below HBW.out
          refine wp_append_any _ (.tmp 29) (.tmp 33) _ (by rfl) w4.heap.size 35 i0 _ 10 120 Try.underlying41 hi0 hz0 hz1 hz2 rfl (by omega) (.slice (some ⟨V1.heap.size, 0, none⟩) 0 0) 0 [] (by rfl) Hrow.out w4.heap.size A L.length c _ (by rfl) hr6 HoneL.out (by unfold maxLen; omega) (by omega) HBW.out.size fun v6 w6 ho6 hg6 hv6 => ?_
          simp only [Nat.zero_add, List.nil_append] at ho6
          obtain ⟨A6, c6, rfl⟩ := ownsRow_slice ho6
          have hb6 : Below w4.heap.size w4 w6 := HBW.out.trans ((Keeps.grown (X := fun i => w4.heap.size ≤ i) hg6 (fun i hi => .inl (Hrow.out.lt _ hi).1)).below (fun i hi e => by omega) HBW.out.size)
          have hgr6 : ∀ i, (Value.slice (some ⟨V1.heap.size, 0, none⟩) 0 0).ownBlock = some i → i ≠ w.heap.size := fun i hi => by have := (Hrow.out.lt _ hi).1; omega
          have Ho6 := Lib.hid ho6
          have Hb6 := Lib.hid hb6
          have Hg6 := Lib.hid hg6
          clear hr6 ho6 hb6
          refine hK.out _ _ (moved (.grown hg6 fun i hi => .inl (hgr6 i hi)) (by decide)) ?_
          clear hK K
          try simp only [Act.put, List.setIfInBounds_toArray, List.set_cons_zero, List.set_cons_succ]
          clear hg6 hv6 hgr6
          have h8 := H8.out.grown Hg6.out (fun e => by injection e with e; exact hne e)
          clear H8 HBW
          have H8 := Lib.hid h8
          have HBW := Hb6
          clear h8
          refine wpMonoJ_one' 9 (by kernel_rfl) rfl (by rfl) (fun K hK => ?_)
          have hr9 := Reads.of_blk (n := 1) (size := 10) H8.out rfl
          refine wp_append_any _ (.tmp 34) (.tmp 36) _ (by rfl) w4.heap.size 35 i0 _ 10 120 Try.underlying41 hi0 hz0 hz1 hz2 rfl (by omega) (.slice A6 L.length c6) L.length _ (by rfl) Ho6.out _ _ 1 1 (Wr.cells ⟨r, n, t, s, .slice A2 md c2, zs, se, k, v, gn, l⟩) (by rfl) hr9 (oneW _ rfl) (by unfold maxLen; omega) (by omega) HBW.out.size fun v9 w9 ho9 hg9 hv9 => ?_
          obtain ⟨A9, c9, rfl⟩ := ownsRow_slice ho9
          have Hb9 := Lib.hid (HBW.out.trans ((Keeps.grown (X := fun i => w4.heap.size ≤ i) hg9 (fun i hi => .inl (Ho6.out.lt _ hi).1)).below (fun i hi e => by omega) HBW.out.size))
          have hgr9 : ∀ i, (Value.slice A6 L.length c6).ownBlock = some i → i ≠ w.heap.size := fun i hi => by have := (Ho6.out.lt _ hi).1; omega
          have Ho9 := Lib.hid ho9
          refine hK.out _ _ (moved (.grown hg9 fun i hi => .inl (hgr9 i hi)) (by decide)) ?_
          clear hK K
          try simp only [Act.put, List.setIfInBounds_toArray, List.set_cons_zero, List.set_cons_succ]
          clear hr9 ho9 hg9 hv9 hgr9
          have hf9 := HF4.out.keeps (X := nobody) (.of_below Hb9.out) (fun _ _ h => h)
          have p3 : w9.cell? ⟨g, 3, none⟩ = _ := hf9.blk.cell 3
          have pf := hf9.blk.frozen 3
          have pl9 := hf9.blk.lt
          simp at p3
          have HF9 := Lib.hid hf9
          clear hf9
          refine wpMonoJ_take' 10 (v := ?_) rfl (by kernel_rfl) (by kernel_rfl) (by kernel_rfl) (by rfl) (fun _ _ _ h => h) (by rfl) ?_ ?_
          rotate_left
          · (intro W hSw
             go_simp; first | done | rfl)
          try simp only [Act.put, List.setIfInBounds_toArray, List.set_cons_zero, List.set_cons_succ]
          refine wpMonoJ_take' 11 (v := ?_) rfl (by kernel_rfl) (by kernel_rfl) (by kernel_rfl) (by rfl) (fun _ _ _ h => h) (by rfl) ?_ ?_
          rotate_left
          · (intro W hSw
             go_simp; first | done | rfl)
          try simp only [Act.put, List.setIfInBounds_toArray, List.set_cons_zero, List.set_cons_succ]
          refine wpMonoJ_one' 12 (by kernel_rfl) rfl (by rfl) (fun K hK => ?_)
          go_simp
          refine hK.out _ _ (moved (.setCell (.inl hgx) _) (by decide)) ?_
          clear hK K
          try simp only [Act.put, List.setIfInBounds_toArray, List.set_cons_zero, List.set_cons_succ]
          refine wpMonoJ_done (by kernel_rfl) ?_ _
          rw [← hL2] at Ho9
          have hP := HF9.out.push (x := ⟨r, n, t, s, .slice A2 md c2, zs, se, k, v, gn, l⟩) (B := w2.heap.size) (HN4.out.below Hb9.out) (by
            have := HF4.out.k0lt
            have := hSl k0 HF4.out.inK
            omega) (by
            have h := Ho9.out
            refine ⟨h.1, h.2.imp id ?_⟩
            rintro ⟨g', cap, cur, e, h5, h6⟩
            exact ⟨g', cap, cur, e, by omega, h6⟩) (by omega) Hlast2.out
          have hkk : Keeps S w (w9.setCell ⟨g, 3, none⟩ (.slice A9 (L'.length + 1) c9)) := ((Keeps.of_below HB4.out).trans (.of_below Hb9.out)).trans (.setCell (.inl HF9.out.inG) _)
          have HR := Lib.hid (show AddRR S g rg nn bs L K ⟨r, n, t, s, .slice Ad md cd, zs, se, k, v, gn, l⟩ w (.returned (.int .i64 0)) (w9.setCell ⟨g, 3, none⟩ (.slice A9 (L'.length + 1) c9)) from
            ⟨ret_int Hcode.out.symm, hkk, fun i => (S i ∨ w2.heap.size ≤ i) ∧ i < w9.heap.size, ⟨_, A9, c9, k0, ck, by unfold addL; rw [Hcode.out, if_pos rfl, List.map_append, hLL]; rfl, hP⟩, fun i hi => hi.1.imp id fun h => Nat.le_trans hsz2 h⟩)
          rw [hL2] at HR
          clear hP hkk
          go_wp2
          go_ret
          exact HR.out
end Go.Proofs.Ytmclmefgddomfaa.feed
