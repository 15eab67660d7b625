/- slices.IndexFunc and slices.DeleteFunc of rows by the closure of Shows. -/
import Derived.Test.YtgfamdakjcjdkaaDoorLoopS
import Derived.Test.YtgfamdakjcjdkaaDoorRowOps
namespace Go.Proofs.YtgfamdakjcjdkaaDoor.store
open Go Go.RowKit Go.Proofs.YtgfamdakjcjdkaaDoor.base Go.Proofs.YtgfamdakjcjdkaaDoor.err Go.Proofs.YtgfamdakjcjdkaaDoor.above Go.Proofs.YtgfamdakjcjdkaaDoor.law Go.Proofs.YtgfamdakjcjdkaaDoor.merge Go.Proofs.YtgfamdakjcjdkaaDoor.rows Go.Proofs.YtgfamdakjcjdkaaDoor.rowe Go.Proofs.YtgfamdakjcjdkaaDoor.rowops

theorem wpList_clear_run {P : Program} (w : World) {ops : Array Oper} {rest : List Oper} {o : Oper} {a : Act} {Q : Exit → Act → World → Prop} (hgd : o.guard = none) (s : Operand) (t : TypeId)
    (ho : o.op = .call { callee := .builtin .clear, args := #[s], argTypes := #[t] }) (v : Value) (hs : a.eval s = v) {v' : Value} {w' : World}
    (hr : (Builtin.clear_ #[t] o.type #[v]).run P w = .ok v' w') (h : wpList P ops Q rest (a.put o.dst v') w') : wpList P ops Q (o :: rest) a w :=
  wpList_plain hgd fun _ hK => by
    unfold Oper.wp execOp
    simp only [ho, resolve, invoke, builtin, Sem.run_bind, Sem.run_pure, Result.andThen_ok, List.map_toArray, List.map_cons, List.map_nil, hs, hr]
    exact hK _ _ h
theorem row_zero (w : World) : (zeroValue 60).run Tryd.prog w = .ok (.agg #[.string ⟨#[]⟩, .string ⟨#[]⟩, .int .i64 0, .int .i64 0, .string ⟨#[]⟩, .bool false, .int .i64 0]) w := by kernel_rfl
/-- the closure, at rows of L: what it answers in whatever world in which all but the row is as it was -/
def Tells (bx g : Nat) (L : List R) (P : R → Bool) (w : World) : Prop :=
  ∀ W, Keeps (· = g) w W → ∀ x ∈ L, Calls Tryd.prog 51 #[.agg ⟨rcells x⟩, .pointer (some ⟨bx, 0, none⟩)] W fun e w' => e = .returned (.bool (P x)) ∧ Below W.heap.size W w'
def IndexR (L : List R) (P : R → Bool) (w : World) (e : Ending) (w' : World) : Prop :=
  ((∃ k : Nat, k < L.length ∧ (∀ x ∈ L.take k, P x = false) ∧ P (L.getD k rZ) = true ∧ e = .returned (.int .i64 k)) ∨ ((∀ x ∈ L, P x = false) ∧ e = .returned (.int .i64 (-1)))) ∧ Below w.heap.size w w'
theorem getD_mem {L : List R} {k : Nat} (hk : k < L.length) : L.getD k rZ ∈ L := by
  rw [List.getD_eq_getElem?_getD, List.getElem?_eq_getElem hk]
  exact List.getElem_mem hk
theorem take_snocR {L : List R} {k : Nat} (hk : k < L.length) : L.take (k + 1) = L.take k ++ [L.getD k rZ] := by
  rw [List.take_succ_eq_append_getElem hk, List.getD_eq_getElem?_getD, List.getElem?_eq_getElem hk]; rfl
set_option maxRecDepth 100000 in
set_option maxHeartbeats 1000000 in
theorem index_rows (bx g n cap : Nat) (L : List R) (P : R → Bool) (w : World) (hgl : g < w.heap.size) (hl : L.length = n) (hn : n ≤ 1000000) (hr : Reads w w.heap.size 7 (some ⟨g, 0, none⟩) n (L.flatMap rcells)) (ht : Tells bx g L P w) :
    Calls Tryd.prog 59 #[.slice (some ⟨g, 0, none⟩) n cap, .func (.func 51) #[] #[.pointer (some ⟨bx, 0, none⟩)]] w (IndexR L P w) := by
  have Hl := Lib.hid hl
  have Hr := Lib.hid hr
  have Ht := Lib.hid ht
  clear hl hr ht
  go_enter Tryd.func59, Tryd.ntmps59
  go_wp2
  go_loopw [8] (fun i wr => ∃ k : Nat, k ≤ n ∧ i = .int .i64 k ∧ (∀ x ∈ L.take k, P x = false) ∧ Below w.heap.size w wr) (fun i _ => n - (intOf i).toNat)
  case atStart => exact ⟨0, by omega, rfl, fun x hx => by simp at hx, Below.refl _ _⟩
  case round =>
    obtain ⟨k, hk, rfl, i1, i2⟩ := hrel
    by_cases hlt : k < n
    · have hkl : k < L.length := by rw [Hl.out]; exact hlt
      have hc0 := row_at' (Hr.out.below i2) Hl.out hlt
      have hc : ∀ q v, (rcells (L.getD k rZ))[q]? = some v → wr.cell? ⟨g, k * 7 + q, none⟩ = some v := fun q v h => by have := hc0 q v h; rwa [Nat.zero_add] at this
      have hcall := Ht.out wr (.of_below i2) _ (getD_mem hkl)
      have hsn := take_snocR hkl
      have hsz := i2.size
      have hbl : g < wr.heap.size := by omega
      obtain ⟨e0, e1, e2, e3, e4, e5, e6⟩ := seven_of hc
      obtain ⟨x, hx⟩ : ∃ x, L.getD k rZ = x := ⟨_, rfl⟩
      rw [hx] at e0 e1 e2 e3 e4 e5 e6 hcall hsn
      obtain ⟨⟨x1, x2⟩, ⟨t, r, v, gn, l⟩⟩ := x
      dsimp only at e0 e1 e2 e3 e4 e5 e6
      have HX := Lib.hid hx
      have HSN := Lib.hid hsn
      have I1 := Lib.hid i1
      have I2 := Lib.hid i2
      have HCALL := Lib.hid hcall
      clear hx hsn hc hc0 i1 i2 hcall
      cases hp : P ((x1, x2), ⟨t, r, v, gn, l⟩) with
      | true =>
        have HP := Lib.hid hp
        clear hp
        go_wp2_with fail
        refine HCALL.out.mono ?_
        rintro e w5 ⟨rfl, hb5⟩
        rw [HP.out]
        have HR := Lib.hid (show IndexR L P w (.returned (.int .i64 k)) w5 from ⟨.inl ⟨k, hkl, I1.out, by rw [HX.out]; exact HP.out, rfl⟩, below_step I2.out hb5⟩)
        clear hb5
        go_wp2
        go_ret
        exact HR.out
      | false =>
        have HP := Lib.hid hp
        clear hp
        go_wp2_with fail
        refine HCALL.out.mono ?_
        rintro e w5 ⟨rfl, hb5⟩
        rw [HP.out]
        have HB5 := Lib.hid (below_step I2.out hb5)
        clear hb5
        go_wp2
        go_roundw
        case rel =>
          refine ⟨k + 1, by omega, by go_num, fun y hy => ?_, HB5.out⟩
          rw [HSN.out] at hy
          rcases List.mem_append.1 hy with hy | hy
          · exact I1.out y hy
          · rw [List.mem_singleton.1 hy]; exact HP.out
        case measure => simp [intOf]; omega
    · obtain rfl : n = k := by omega
      have HR := Lib.hid (show IndexR L P w (.returned (.int .i64 (-1))) wr from ⟨.inr ⟨by rw [List.take_of_length_le (by rw [Hl.out]; omega)] at i1; exact i1, rfl⟩, i2⟩)
      clear i1 i2
      go_wp2
      go_ret
      exact HR.out
/-- what the deletion leaves -/
def DelR (base g cap : Nat) (L : List R) (P : R → Bool) (w : World) (e : Ending) (w' : World) : Prop :=
  ∃ m, e = .returned (.slice (some ⟨g, 0, none⟩) m cap) ∧ w'.ownsRow base rowT 7 (.slice (some ⟨g, 0, none⟩) m cap) m ((L.filter fun x => !P x).flatMap rcells) ∧ Keeps (· = g) w w'
theorem set_take {M : List R} {i : Nat} {x : R} (hi : i < M.length) : (M.set i x).take (i + 1) = M.take i ++ [x] := by
  rw [List.take_set, List.take_succ_eq_append_getElem hi, List.set_append_right _ _ (by rw [List.length_take]; omega)]
  simp [Nat.min_eq_left (Nat.le_of_lt hi)]
theorem set_drop {M : List R} {i j : Nat} {x : R} (hi : i < j) : (M.set i x).drop j = M.drop j := List.drop_set_of_lt hi
set_option maxRecDepth 100000 in
set_option maxHeartbeats 4000000 in
theorem delete_rows (base bx g n cap : Nat) (L : List R) (P : R → Bool) (w : World) (hl : L.length = n) (hn : n ≤ 1000000) (hown : w.ownsRow base rowT 7 (.slice (some ⟨g, 0, none⟩) n cap) n (L.flatMap rcells)) (ht : Tells bx g L P w) :
    Calls Tryd.prog 50 #[.slice (some ⟨g, 0, none⟩) n cap, .func (.func 51) #[] #[.pointer (some ⟨bx, 0, none⟩)]] w (DelR base g cap L P w) := by
  have hrd := Reads.of_own hown
  have hgl := hown.lt g rfl
  have hcap : n ≤ cap ∧ cap ≤ 9223372036854775807 := by
    rcases hown.2 with ⟨e, _⟩ | ⟨g', cap', cur, e, _, _, h3, h4, _⟩
    · cases e
    · injection e with _ _ ec
      subst ec
      unfold maxLen at h4
      exact ⟨h3, by omega⟩
  obtain ⟨hcap1, hcap2⟩ := hcap
  have HO := Lib.hid hown
  have HRD := Lib.hid hrd
  have Hl := Lib.hid hl
  have Ht := Lib.hid ht
  clear hl ht
  clear hown hrd
  go_enter Tryd.func50, Tryd.ntmps50
  go_wp2_with fail
  refine (index_rows bx g n cap L P w hgl.2 Hl.out hn HRD.out Ht.out).mono ?_
  rintro e w1 ⟨hidx, hb1⟩
  rcases hidx with ⟨i0, hi0, h0a, h0b, rfl⟩ | ⟨hall, rfl⟩
  · have hi0n : i0 < n := by rw [← Hl.out]; exact hi0
    have hne1 : ((i0 : Int) == -1) = false := by simp
    have HA := Lib.hid h0a
    have HB := Lib.hid h0b
    have HB1 := Lib.hid hb1
    clear h0a h0b hb1 hi0
    go_wp2
    go_loopw [5, 6] (fun si sj wr => ∃ (i j : Nat) (M : List R), si = .int .i64 i ∧ sj = .int .i64 j ∧ i < j ∧ j ≤ n ∧ M.length = n ∧ M.take i = (L.take j).filter (fun x => !P x) ∧ M.drop j = L.drop j ∧ wr.ownsRow base rowT 7 (.slice (some ⟨g, 0, none⟩) n cap) n (M.flatMap rcells) ∧ Keeps (· = g) w wr) (fun _ sj _ => n - (intOf sj).toNat)
    case atStart =>
      refine ⟨i0, i0 + 1, L, rfl, by go_num, by omega, by omega, Hl.out, ?_, rfl, own_below (HO.out) (by exact HB1.out), .of_below HB1.out⟩
      rw [take_snocR (by rw [Hl.out]; exact hi0n), List.filter_append, List.filter_eq_self.2 (fun x hx => by rw [HA.out x hx]; rfl)]
      rw [show [L.getD i0 rZ].filter (fun x => !P x) = [] by simp only [List.filter_cons, HB.out]; rfl, List.append_nil]
    case round =>
      clear HA HB HB1
      obtain ⟨i, j, M, rfl, rfl, hij, hjn, hml, htk, hdr, hom, hkm⟩ := hrel
      have hrM := Reads.of_own hom
      have hszw := hkm.size
      have hbl : g < wr.heap.size := by omega
      by_cases hlt : j < n
      · have hjM : j < M.length := by omega
        have hjL : j < L.length := by rw [Hl.out]; exact hlt
        have hMj : M.getD j rZ = L.getD j rZ := by
          have h1 := congrArg (fun l => l[0]?) hdr
          simp only [List.getElem?_drop, Nat.add_zero] at h1
          rw [List.getD_eq_getElem?_getD, List.getD_eq_getElem?_getD, h1]
        have hc0 := row_at' hrM hml hlt
        rw [hMj] at hc0
        have hc : ∀ q v, (rcells (L.getD j rZ))[q]? = some v → wr.cell? ⟨g, j * 7 + q, none⟩ = some v := fun q v h => by have := hc0 q v h; rwa [Nat.zero_add] at this
        have hcall := fun W hk => Ht.out W hk _ (getD_mem hjL)
        have hsn := take_snocR hjL
        have hd1 : M.drop (j + 1) = L.drop (j + 1) := by
          have := congrArg (List.drop 1) hdr
          rwa [List.drop_drop, List.drop_drop] at this
        obtain ⟨e0, e1, e2, e3, e4, e5, e6⟩ := seven_of hc
        obtain ⟨x, hx⟩ : ∃ x, L.getD j rZ = x := ⟨_, rfl⟩
        rw [hx] at e0 e1 e2 e3 e4 e5 e6 hcall hsn
        obtain ⟨⟨x1, x2⟩, ⟨t, r, v, gn, l⟩⟩ := x
        dsimp only at e0 e1 e2 e3 e4 e5 e6
        have HSN := Lib.hid hsn
        have HCALL := Lib.hid hcall
        have HM := Lib.hid hml
        have HTK := Lib.hid htk
        have HD1 := Lib.hid hd1
        have hkx : Keeps (· = g) w (wr.alloc (.cells #[.string x1, .string x2, .int .i64 t, .int .i64 r, .string v, .bool gn, .int .i64 l] 60)) := hkm.trans (Keeps.alloc _)
        have HKX := Lib.hid hkx
        have HBX := Lib.hid (Blk.new wr 60 #[.string x1, .string x2, .int .i64 t, .int .i64 r, .string v, .bool gn, .int .i64 l])
        have HOM := Lib.hid (hom.alloc (.cells #[.string x1, .string x2, .int .i64 t, .int .i64 r, .string v, .bool gn, .int .i64 l] 60))
        clear hx hsn hc hc0 hcall hml htk hdr hom hkm hrM hMj hd1 hkx
        cases hp : P ((x1, x2), ⟨t, r, v, gn, l⟩) with
        | true =>
          have HP := Lib.hid hp
          clear hp
          go_wp2_with fail
          refine (HCALL.out _ HKX.out).mono ?_
          rintro e w5 ⟨rfl, hb5⟩
          rw [HP.out]
          have HK5 := Lib.hid (HKX.out.trans (.of_below hb5))
          have HO5 := Lib.hid (own_below HOM.out hb5)
          clear hb5
          go_wp2
          go_roundw
          case rel =>
            refine ⟨i, j + 1, M, rfl, by go_num, by omega, by omega, HM.out, ?_, HD1.out, HO5.out, HK5.out⟩
            rw [HSN.out, List.filter_append, ← HTK.out, show [((x1, x2), (⟨t, r, v, gn, l⟩ : C))].filter (fun x => !P x) = [] by simp only [List.filter_cons, HP.out]; rfl, List.append_nil]
          case measure => simp [intOf]; omega
        | false =>
          have HP := Lib.hid hp
          clear hp
          go_wp2_with fail
          refine (HCALL.out _ HKX.out).mono ?_
          rintro e w5 ⟨rfl, hb5⟩
          rw [HP.out]
          have hx5 := HBX.out.below hb5 (by simp)
          obtain ⟨d0, d1, d2, d3, d4, d5, d6⟩ := cells7 hx5
          have dl := hx5.lt
          have HK5 := Lib.hid (HKX.out.trans (.of_below hb5))
          have HO5 := Lib.hid (own_below HOM.out hb5)
          have hsz5 := hb5.size
          clear hb5 hx5
          go_wp2_with (refine wpList_store_own rfl 60 (.tmp 33) (.tmp 32) rfl rcells rlen (l := M) i ((x1, x2), ⟨t, r, v, gn, l⟩) rfl rfl HO5.out HM.out (by omega) (by kernel_rfl) rfl ?_; intro w6 ho6 hk6 hs6; have HO6 := Lib.hid ho6; have HK6 := Lib.hid hk6; clear ho6 hk6 hs6)
          go_roundw
          case rel =>
            refine ⟨i + 1, j + 1, M.set i ((x1, x2), ⟨t, r, v, gn, l⟩), by go_num, by go_num, by omega, by omega, by simp [HM.out], ?_, ?_, HO6.out, HK5.out.trans HK6.out⟩
            · rw [set_take (by rw [HM.out]; omega), HSN.out, List.filter_append, ← HTK.out, show [((x1, x2), (⟨t, r, v, gn, l⟩ : C))].filter (fun x => !P x) = [((x1, x2), (⟨t, r, v, gn, l⟩ : C))] by simp only [List.filter_cons, HP.out]; rfl]
            · rw [set_drop (by omega), HD1.out]
          case measure => simp [intOf]; omega
      · obtain rfl : n = j := by omega
        rw [show L.take n = L from List.take_of_length_le (by rw [Hl.out]; omega)] at htk
        obtain ⟨cur, hb0, hg, _, hcm, hcs, hta⟩ : ∃ cur, base ≤ g ∧ wr.heap[g]? = some (.cells cur 60 (0, 0)) ∧ n ≤ cap ∧ cap ≤ maxLen ∧ cur.size = cap * 7 ∧ cur.toList.take (n * 7) = M.flatMap rcells := by
          rcases hom.2 with ⟨e, _⟩ | ⟨g', cap', cur, e, h1, h2, h3, h4, h5, h6⟩
          · cases e
          · injection e with e _ ec
            injection e with e
            injection e with e
            subst e ec
            exact ⟨cur, h1, h2, h3, h4, h5, h6⟩
        have hzc : ∀ v ∈ (#[.string ⟨#[]⟩, .string ⟨#[]⟩, .int .i64 0, .int .i64 0, .string ⟨#[]⟩, .bool false, .int .i64 0] : Array Value).toList, v.oneCell' = true := by simp [Value.oneCell']
        have hcl := fun ty c => run_clear_rows (P := Tryd.prog) (w := wr) 41 60 ty _ Tryd.underlying41 (row_zero wr) (by decide) hzc g (i * 7) (n - i) c cur (by omega) hg (by rw [hcs]; show i * 7 + (n - i) * 7 ≤ cap * 7; omega)
        obtain ⟨zs, hzs⟩ : ∃ zs, (Builtin.zeroCells (Value.agg #[.string ⟨#[]⟩, .string ⟨#[]⟩, .int .i64 0, .int .i64 0, .string ⟨#[]⟩, .bool false, .int .i64 0]).cells (n - i)).toList = zs := ⟨_, rfl⟩
        have hzl : zs.length = (n - i) * 7 := by rw [← hzs, zeros_len]; rfl
        rw [hzs] at hcl
        have hk2 : Keeps (· = g) wr (wr.setRow g (putAt cur.toList (i * 7) zs).toArray) := setRow_keeps _ _ _
        have hg2 : Blk (wr.setRow g (putAt cur.toList (i * 7) zs).toArray) g 60 _ := setRow_blk _ hg
        generalize wr.setRow g (putAt cur.toList (i * 7) zs).toArray = W2 at *
        have hne : ¬ cap = i := by omega
        have HR := Lib.hid (show DelR base g cap L P w (.returned (.slice (some ⟨g, 0, none⟩) i cap)) W2 from by
          refine ⟨i, rfl, ⟨?_, .inr ⟨g, cap, _, rfl, hb0, hg2, by omega, hcm, ?_, ?_⟩⟩, hkm.trans hk2⟩
          · rw [len_flat rcells rlen, ← htk, List.length_take, hml, Nat.min_eq_left (by omega)]
          · have := putAt_len (cur := cur.toList) (vs := zs) (o := i * 7) (by
              have h1 : cur.toList.length = cap * 7 := by rw [Array.length_toList, hcs]
              rw [h1, hzl]
              omega)
            rw [List.size_toArray, this, Array.length_toList, hcs]
          · have h1 : cur.toList.length = cap * 7 := by rw [Array.length_toList, hcs]
            show (putAt cur.toList (i * 7) zs).take (i * 7) = _
            unfold putAt
            rw [List.append_assoc, List.take_left' (by rw [List.length_take, h1]; omega)]
            have h3 := congrArg (List.take (i * 7)) hta
            rw [List.take_take, Nat.min_eq_left (by omega)] at h3
            rw [h3, ← htk]
            have h4 : M.flatMap rcells = (M.take i).flatMap rcells ++ (M.drop i).flatMap rcells := by rw [← List.flatMap_append, List.take_append_drop]
            rw [h4, List.take_left' (by rw [len_flat rcells rlen, List.length_take, hml, Nat.min_eq_left (by omega)])])
        have HCL := Lib.hid hcl
        clear hcl hml htk hdr hom hkm hrM hg hcm hcs hta hzc hzs hzl hk2 hg2 hb0
        go_wp2_with (refine wpList_clear_run wr rfl (.tmp 38) 41 rfl (.slice (some ⟨g, i * 7, none⟩) (n - i) (cap - i)) rfl (HCL.out _ _) ?_)
        go_ret
        exact HR.out
  · have HR := Lib.hid (show DelR base g cap L P w (.returned (.slice (some ⟨g, 0, none⟩) n cap)) w1 from ⟨n, rfl, by
      rw [List.filter_eq_self.2 (fun x hx => by rw [hall x hx]; rfl)]
      exact own_below HO.out hb1, .of_below hb1⟩)
    clear hall hb1
    go_wp2
    go_ret
    exact HR.out
end Go.Proofs.YtgfamdakjcjdkaaDoor.store
