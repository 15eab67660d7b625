/- The walk of the law DepOrders: it returns true; nothing that was there is written. -/
import Derived.Test.YtedkcpncomgboaaPlainI
import Derived.Test.YtedkcpncomgboaaSameD
namespace Go.Proofs.Ytedkcpncomgboaa.wDepOrders
open Go Go.RowKit Go.Proofs.Ytedkcpncomgboaa.base Go.Proofs.Ytedkcpncomgboaa.rowe Go.Proofs.Ytedkcpncomgboaa.err Go.Proofs.Ytedkcpncomgboaa.wire Go.Proofs.Ytedkcpncomgboaa.vec Go.Proofs.Ytedkcpncomgboaa.cmp Go.Proofs.Ytedkcpncomgboaa.with_ Go.Proofs.Ytedkcpncomgboaa.dep Go.Proofs.Ytedkcpncomgboaa.ref

/-- a slice of numbers that can be read, apart from S -/
def VecAp (w : World) (v : Value) (zs : List Int) (S : Nat → Prop) : Prop := ∃ A n c, v = .slice A n c ∧ Vec w w.heap.size A n c zs ∧ (0 < n → ∀ b off, A = some ⟨b, off, none⟩ → ¬ S b)
theorem VecAp.below {w w' : World} {v : Value} {zs : List Int} {S : Nat → Prop} (h : VecAp w v zs S) (hb : Below w.heap.size w w') : VecAp w' v zs S := by
  obtain ⟨A, n, c, h1, h2, h3⟩ := h
  exact ⟨A, n, c, h1, (h2.below hb).more hb.size, h3⟩
theorem VecAp.keeps {w w' : World} {v : Value} {zs : List Int} {S S' : Nat → Prop} (h : VecAp w v zs S) (hk : Keeps S w w') (hS : ∀ i, S' i → S i ∨ w.heap.size ≤ i) : VecAp w' v zs S' := by
  obtain ⟨A, n, c, h1, ⟨h4, h5, h6, h7, h8⟩, h3⟩ := h
  refine ⟨A, n, c, h1, ⟨h4, h5, h6, ⟨h7.1, fun hp => ?_⟩, h8⟩, fun hp b off e hb => ?_⟩
  · obtain ⟨b, off, rfl, hb, hc⟩ := h7.2 hp
    exact ⟨b, off, rfl, Nat.lt_of_lt_of_le hb hk.size, fun j hj => by rw [hk.cell (off + j) hb (h3 hp b off rfl)]; exact hc j hj⟩
  · obtain ⟨b', off', e2, hb2, _⟩ := h7.2 hp
    rw [e] at e2
    injection e2 with e2
    injection e2 with e2
    subst e2
    rcases hS b hb with h | h
    · exact h3 hp b off e h
    · omega
theorem VecAp.fresh {w W1 : World} {v : Value} {zs : List Int} {S : Nat → Prop} {base : Nat} (h : w.ownsRow base 3 1 v zs.length (enc zs)) (hb : W1.heap.size ≤ base) (hS : ∀ i, S i → i < W1.heap.size) : VecAp w v zs S := by
  obtain ⟨A, c, rfl, hv⟩ := Vec.of_own (n := zs.length) (zs := zs) (own_low h (Nat.zero_le _))
  refine ⟨A, _, c, rfl, hv, fun hp b off e hs => ?_⟩
  subst e
  have h1 := hS b hs
  rcases h.2 with ⟨e2, _⟩ | ⟨g, cap, cur, e2, h2, _⟩
  · cases e2
  · injection e2 with e2
    injection e2 with e2
    injection e2 with e2
    omega
theorem foldA_len {a : List Int} (h : a.length ≤ 16) (out : List Wr) : (foldA a out).length ≤ 16 := by
  unfold foldA
  induction out generalizing a with
  | nil => exact h
  | cons y out ih => exact ih (with_len h)
/-- where the script stands behind i operations -/
def OrdI (w : World) (g : Nat) (rg : Int) (i : Nat) (wr : World) (vs : Value) (own : Int) : Prop :=
  ∃ S ap ws va vw, InF wr S g rg ap ws va vw ∧ (∀ j, S j → w.heap.size ≤ j) ∧ Below w.heap.size w wr ∧ Sorted ws ∧ (∀ x ∈ ws, x.r ≠ rg) ∧ ws.length ≤ i ∧ trimL ap = ap ∧ (∀ r, 0 ≤ atV ap r) ∧ own = atV ap rg ∧ own ≤ i ∧ VecAp wr vs ap S
theorem foldA_at {rg : Int} {a : List Int} {out : List Wr} (h : ∀ x ∈ out, (1 ≤ x.r ∧ x.r ≤ 16) ∧ (1 ≤ x.n ∧ x.n ≤ 1099511627776) ∧ x.r ≠ rg) (h0 : ∀ r, 0 ≤ atV a r) (ht : trimL a = a) :
    atV (foldA a out) rg = atV a rg ∧ (∀ r, 0 ≤ atV (foldA a out) r) ∧ trimL (foldA a out) = foldA a out := by
  unfold foldA
  induction out generalizing a with
  | nil => exact ⟨rfl, h0, ht⟩
  | cons y out ih =>
    obtain ⟨h1, h2, h3⟩ := h y (by simp)
    have h4 : ∀ r, 0 ≤ atV (withL a y.r y.n) r := fun r => by rw [atV_with _ _ _ _ h1]; split; omega; exact h0 r
    obtain ⟨e1, e2, e3⟩ := ih (a := withL a y.r y.n) (fun x hx => h x (by simp [hx])) h4 (trim_with _ _ _)
    refine ⟨?_, e2, e3⟩
    rw [List.foldl_cons, e1, atV_with _ _ _ _ h1, if_neg (fun e => h3 e.symm)]
/-- behind an operation that has shown: the rest is as it was -/
theorem OrdI.next {w w0 W1 : World} {S S' : Nat → Prop} {g k : Nat} {rg own : Int} {a0 a : List Int} {L l out : List Wr} {vo : Value} (hd : DrainI w0 S g rg a0 L vo W1 a l out S') (hS : ∀ j, S j → w.heap.size ≤ j) (hb0 : Below w.heap.size w w0)
    (hs : Sorted L) (hL : ∀ x ∈ L, (1 ≤ x.r ∧ x.r ≤ 16) ∧ (1 ≤ x.n ∧ x.n ≤ 1099511627776) ∧ x.r ≠ rg) (hlen : L.length ≤ k + 1) (h0 : ∀ r, 0 ≤ atV a0 r) (ht : trimL a0 = a0) (ho : own = atV a0 rg) (hk : own ≤ (k : Int) + 1) :
    ∀ wr' vs', Below W1.heap.size W1 wr' → VecAp wr' vs' (foldA a0 out) S' → OrdI w g rg (k + 1) wr' vs' own := by
  intro wr' vs' hb hv
  obtain ⟨hst, ⟨va, vw, hf, _⟩, _, _, _, hK, hS'⟩ := hd
  obtain ⟨h1, _, h3, h4⟩ := hst.shown
  have hout : ∀ x ∈ out, (1 ≤ x.r ∧ x.r ≤ 16) ∧ (1 ≤ x.n ∧ x.n ≤ 1099511627776) ∧ x.r ≠ rg := fun x hx => hL x (h3 x hx)
  obtain ⟨e1, e2, e3⟩ := foldA_at hout h0 ht
  rw [h1] at e1 e2 e3 hv
  have hb1 : Below w.heap.size w W1 := hb0.trans (hK.below (fun i hi h => by have := hS i h; omega) hb0.size)
  refine ⟨S', a, l, va, vw, hf.below hb, fun j hj => (hS' j hj).elim (hS j) (fun h => Nat.le_trans hb0.size h), below_step hb1 hb, hs.sub h4, fun x hx => (hL x (h4.subset hx)).2.2, ?_, e3, e2, by rw [ho, e1], by omega, hv⟩
  have := h4.length_le
  omega
/-- behind an operation that has changed nothing -/
theorem OrdI.same {w wr wr' : World} {g k : Nat} {rg own : Int} {vs : Value} (h : OrdI w g rg k wr vs own) (hb : Below wr.heap.size wr wr') : OrdI w g rg (k + 1) wr' vs own := by
  obtain ⟨S, ap, ws, va, vw, h1, h2, h3, h4, h5, h6, h7, h8, h9, h10, h11⟩ := h
  exact ⟨S, ap, ws, va, vw, h1.below hb, h2, below_step h3 hb, h4, h5, by omega, h7, h8, h9, by omega, h11.below hb⟩
theorem ho9_at {w : World} {g : Nat} {t : TypeId} {o : Opd} (h : Blk w g t o.cells.toArray) {q : Nat} {v : Value} (hq : o.x.cells[q]? = some v) : w.cell? ⟨g, 1 + q, none⟩ = some v := by
  rw [h.cell (1 + q), Nat.add_comm]
  have h1 : o.cells[q + 1]? = some v := by
    show (o.x.cells ++ [o.v])[q]? = some v
    rw [List.getElem?_append_left (List.getElem?_eq_some_iff.1 hq).1]
    exact hq
  simpa using h1
set_option maxRecDepth 100000 in
set_option maxHeartbeats 6000000 in
theorem walk (v0 v1 : Value) (w : World) (a0 : Arg Try.prog w 3 v0) (a1 : Arg Try.prog w 49 v1) :
    Calls Try.prog 4 #[v0, v1] w fun e w' => e = .returned (.bool true) ∧ Below w.heap.size w w' := by
  obtain ⟨rg, rfl, _⟩ := a0.int Try.underlying3
  obtain ⟨L, hL⟩ := ops_arg a1
  have HL0 := Lib.hid hL
  clear a0 a1 hL
  go_enter Try.func4, Try.ntmps4
  go_wp2_with fail
  refine (awake_any _).mono ?_
  rintro e w1 ⟨rfl, hb1⟩
  have HB1 := Lib.hid hb1
  clear hb1
  go_wp2_with fail
  refine (new_any rg none 0 0 [] w1 (vec_nil _ _) (by omega)).mono ?_
  rintro e w2 h2
  rcases h2 with ⟨hnb, g, S, va, rfl, hf2, hS, hb2⟩ | ⟨_, v2, rfl, he2, _, hb2⟩
  rotate_left
  · obtain ⟨ge, rfl⟩ := he2.form
    have HB2 := Lib.hid (below_step HB1.out hb2)
    clear hb2 he2
    go_wp2_with fail
    go_ret
    exact ⟨rfl, HB2.out⟩
  have hrg : 1 ≤ rg ∧ rg ≤ 16 := by
    simp [headB] at hnb
    omega
  have HB2 := Lib.hid (below_step HB1.out hb2)
  have HF2 := Lib.hid hf2
  have HS2 := Lib.hid (show ∀ j, S j → w.heap.size ≤ j from fun j hj => Nat.le_trans HB1.out.size (hS j hj))
  clear hf2 hS hb2 HB1 hnb
  go_wp2_with fail
  refine (great_any v1 L w2 (HL0.out.below HB2.out)).mono ?_
  rintro e w3 ⟨rfl, hb3⟩
  have HB3 := Lib.hid (below_step HB2.out hb3)
  have HF3 := Lib.hid (HF2.out.below hb3)
  clear hb3 HB2 HF2
  cases hg : greatO L with
  | true =>
    go_wp2_with fail
    go_ret
    exact ⟨rfl, HB3.out⟩
  | false =>
  obtain ⟨AO, cO, rfl, _, hcO, hrO, hoO⟩ := HL0.out
  have hg1 : L.length ≤ 100 ∧ ∀ o ∈ L, o.x.z.length ≤ 100 ∧ o.vz.length ≤ 100 := by
    unfold greatO at hg
    simp only [Bool.or_eq_false_iff, decide_eq_false_iff_not, List.any_eq_false, Bool.not_eq_true] at hg
    refine ⟨by omega, fun o ho => ?_⟩
    have := hg.2 o ho
    unfold bigO at this
    simp only [Bool.or_eq_false_iff, decide_eq_false_iff_not] at this
    omega
  obtain ⟨hL100, hoz⟩ := hg1
  have HRO3 := Lib.hid hrO
  have HOO := Lib.hid hoO
  have HOZ := Lib.hid hoz
  clear hrO hoO hoz hg HL0
  obtain ⟨m, hm⟩ : ∃ m, L.length = m := ⟨_, rfl⟩
  rw [hm] at HRO3 hcO hL100 ⊢
  have Hm := Lib.hid hm
  clear hm
  go_wp2_with fail
  go_loopw [7, 8, 36] (fun vs own i wr => ∃ k : Nat, ∃ ow : Int, k ≤ m ∧ i = .int .i64 k ∧ own = .int .i64 ow ∧ OrdI w g rg k wr vs ow) (fun _ _ i _ => m - (intOf i).toNat)
  case atStart => exact ⟨0, 0, by omega, rfl, rfl, ⟨S, [], [], va, .slice none 0 0, HF3.out, HS2.out, HB3.out, List.Pairwise.nil, (fun x h => by cases h), by simp, rfl, fun r => by rw [atV_nil]; omega, by rw [atV_nil], by simp, none, 0, 0, rfl, vec_nil _ _, fun h => absurd h (by omega)⟩⟩
  case round =>
    obtain ⟨k, ow, hkm, rfl, rfl, hord⟩ := hrel
    have HOrd := Lib.hid hord
    clear hord
    by_cases hlt : k < m
    · obtain ⟨S4, ap, ws, va4, vw4, hf4, hS4, hb4, hso, hrr, hwl, htr, hap0, howe, howk, hvs⟩ := HOrd.out
      obtain ⟨b, off, rfl, hbb, he⟩ := op_at (HRO3.out.below hb4) Hm.out hlt
      have HE := Lib.hid he
      have hkl : k < L.length := by rw [Hm.out]; exact hlt
      have hgd : L.getD k opZ = L[k] := by rw [List.getD_eq_getElem?_getD, List.getElem?_eq_getElem hkl]; rfl
      have hok : OpOk wr (L.getD k opZ) := by rw [hgd]; exact (HOO.out _ (List.getElem_mem hkl)).below hb4
      have hoz : (L.getD k opZ).x.z.length ≤ 100 := by rw [hgd]; exact (HOZ.out _ (List.getElem_mem hkl)).1
      generalize L.getD k opZ = o at *
      have hall := hok.all
      have HOK := Lib.hid hok
      have HB4 := Lib.hid hb4
      have HF4 := Lib.hid hf4
      have HS4 := Lib.hid hS4
      have HSO := Lib.hid hso
      have HRR := Lib.hid hrr
      have HTR := Lib.hid htr
      have HAP := Lib.hid hap0
      obtain ⟨A7, n7, c7, rfl, _, _⟩ := id hvs
      have HVS := Lib.hid hvs
      subst howe
      have hsr := hb4.size
      clear hf4 hS4 hb4 hso hrr htr hap0 hvs he hgd hok
      cases hk1 : o.k == 1 with
      | true =>
        go_wp2_with (first | ((with_reducible refine wpList_load_at ?_ 52 (.tmp 38) ?_ b (off + k * 12) o.cells ?_ Try.underlying52 ?_ ?_ HE.out ?_); rfl; rfl; rfl; rfl; (rw [Opd.len]; kernel_rfl)) | ((with_reducible refine wpList_store_blk ?_ 52 (.tmp 10) (.tmp 39) ?_ wr.heap.size o.cells ?_ ?_ (Blk.new wr 52 #[.int .i64 0, .int .i64 0, .int .i64 0, .int .i64 0, .int .i64 0, .slice none 0 0, .string ⟨#[]⟩, .string ⟨#[]⟩, .string ⟨#[]⟩, .bool false, .int .i64 0, .slice none 0 0]) ?_ ?_ hall ?_); rfl; rfl; rfl; rfl; (rw [Opd.len]; kernel_rfl); rfl; intro w9 ho9 hk9 hs9; clear hs9; have HB9 := Lib.hid ((below_new wr _).trans (hk9.below (fun i hi e => absurd hi (by rw [show i = wr.heap.size from e]; omega)) (by simp))); have HEw := Lib.hid (show ∀ q v, o.x.cells[q]? = some v → w9.cell? ⟨wr.heap.size, 1 + q, none⟩ = some v from fun q v hq => ho9_at ho9 hq); have e0 : w9.cell? ⟨wr.heap.size, 0, none⟩ = some (.int .i64 o.k) := ho9.cell 0; have el9 := ho9.lt; have HX9 := Lib.hid ho9; clear hk9 ho9))
        refine (own_any g rg S4 ap ws va4 vw4 none 0 0 [] w9 (HF4.out.below HB9.out) (vec_nil _ _) (by omega) hrg (HAP.out rg)).mono ?_
        rintro e W0 hown
        rcases hown with ⟨hc, _⟩ | ⟨_, hmx, _⟩ | ⟨_, _, vo, a, l, out, S1, rfl, hdr, hno⟩
        · rw [covers_nil HAP.out] at hc
          cases hc
        · omega
        have hw9 : Below w.heap.size w w9 := below_step HB4.out HB9.out
        have hseen : VecAp W0 (.slice A7 n7 c7) ap S1 := (HVS.out.below HB9.out).keeps hdr.2.2.2.2.2.1 hdr.2.2.2.2.2.2
        obtain ⟨Ao, co, rfl⟩ := ownsRow_slice hdr.2.2.1
        have hap16 := HF4.out.afew
        have hn7 : n7 ≤ 1000 := by
          obtain ⟨A, n, c, e, h, _⟩ := hseen
          cases e
          have := h.1
          omega
        have hv7 : Vec W0 W0.heap.size A7 n7 c7 ap := by
          obtain ⟨A, n, c, e, h, _⟩ := hseen
          cases e
          exact h
        have HDR := Lib.hid hdr
        have HV7 := Lib.hid hv7
        have HW9 := Lib.hid hw9
        have hw1 : IntKind.i64.wrap (atV ap rg + 1) = atV ap rg + 1 := by rw [IntKind.wrap_i64]; have := HAP.out rg; omega
        have hap1 := HAP.out rg
        clear hdr hno hw9 hseen hv7 HE HEw e0 el9 HX9
        go_wp2_with fail
        refine (with_ref A7 n7 c7 ap rg (atV ap rg + 1) W0 HV7.out hn7).mono ?_
        rintro e W1 ⟨v1, rfl, hown1, hb1⟩
        obtain ⟨a0, ha0⟩ : ∃ a0, withL ap rg (atV ap rg + 1) = a0 := ⟨_, rfl⟩
        have hdr := HDR.out
        rw [ha0] at hdr hown1
        have hn0 : ∀ r, 0 ≤ atV a0 r := fun r => by
          rw [← ha0, atV_with _ _ _ _ hrg]
          split
          · omega
          · exact HAP.out r
        have hsm0 : ∀ i, S1 i → i < W0.heap.size := by obtain ⟨_, ⟨_, _, hf, _⟩, _⟩ := hdr; exact hf.small
        have HSEEN := Lib.hid (VecAp.fresh (S := S1) hown1 (Nat.le_refl W0.heap.size) hsm0)
        obtain ⟨A12, c12, rfl⟩ := ownsRow_slice hown1
        have hd1 := hdr.below hb1
        have hLr : ∀ x ∈ ws, (1 ≤ x.r ∧ x.r ≤ 16) ∧ (1 ≤ x.n ∧ x.n ≤ 1099511627776) ∧ x.r ≠ rg := fun x hx => ⟨(HF4.out.rng x hx).1, (HF4.out.rng x hx).2, HRR.out x hx⟩
        have HEND := Lib.hid (OrdI.next (k := k) hd1 HS4.out HW9.out HSO.out hLr (by omega) hn0 (by rw [← ha0]; exact trim_with _ _ _) (own := atV ap rg + 1) (by rw [← ha0, with_at _ _ _ hrg]) (by omega))
        have HA0 := Lib.hid (show a0.length ≤ 16 by rw [← ha0]; exact with_len hap16)
        obtain ⟨hst1, ⟨_, _, hf1, _⟩, hrow1, hnum1, _, _, _⟩ := hd1
        obtain ⟨hfa, hsh, hmo, _⟩ := hst1.shown
        have HSM1 := Lib.hid hf1.small
        have hol : out.length ≤ 1000 := by have := hst1.ws_len; omega
        have HSH := Lib.hid hsh
        have HRG := Lib.hid (show ∀ x ∈ out, (1 ≤ x.r ∧ x.r ≤ 16) ∧ (1 ≤ x.n ∧ x.n ≤ 1099511627776) ∧ x.r ≠ rg from fun x hx => hLr x (hmo x hx))
        have HNO := Lib.hid (show ∀ x ∈ out, VecOk W1 x.d x.z ∧ x.z.length ≤ 1000000 from fun x hx => by
          obtain ⟨hn, hf⟩ := (hnum1 x hx).1
          obtain ⟨A, c, e, hv⟩ := Vec.of_own (n := x.z.length) (zs := x.z) hn
          exact ⟨⟨A, _, c, e, hv⟩, hf⟩)
        have HRO := Lib.hid (show Reads W1 W1.heap.size 10 Ao out.length (out.flatMap Wr.cells) from Reads.of_own hrow1)
        clear hst1 hf1 hrow1 hnum1 hfa hsh hmo hdr hLr
        clear hn0 hsm0 hown1 hb1 ha0 HDR HV7 HW9 HVS hw1
        go_wp2_with fail
        go_loopw [7, 14, 65] (fun v _ i wr => ∃ j : Nat, j ≤ out.length ∧ i = .int .i64 j ∧ VecAp wr v (foldA a0 (out.take j)) S1 ∧ Below W1.heap.size W1 wr) (fun _ _ i _ => out.length - (intOf i).toNat)
        case atStart => exact ⟨0, by omega, rfl, HSEEN.out, Below.refl _ _⟩
        case round =>
          obtain ⟨j, hjl, rfl, hvk, hbr⟩ := hrel
          have HBr := Lib.hid hbr
          have hsr := hbr.size
          clear hbr
          by_cases hlt : j < out.length
          · obtain ⟨b, off, rfl, hbl⟩ := HRO.out.at_some (by omega)
            have HE := Lib.hid (show ∀ q v, (out.getD j wrZ).cells[q]? = some v → wr.cell? ⟨b, off + j * 10 + q, none⟩ = some v from fun q v hq => by
              have hq2 : q < 10 := by
                have := (List.getElem?_eq_some_iff.1 hq).1
                rwa [Wr.len] at this
              have h5 := Reads.thing Wr.cells Wr.len HRO.out (k := j) (x := out.getD j wrZ) (by omega) (by rw [List.getD_eq_getElem?_getD, List.getElem?_eq_getElem hlt]; rfl) q hq2
              rw [HBr.out.cell (p := ⟨b, off + j * 10 + q, none⟩) hbl, h5, hq])
            have hmem := getD_mem hlt
            have hfs : foldA a0 (out.take (j + 1)) = withL (foldA a0 (out.take j)) (out.getD j wrZ).r (out.getD j wrZ).n := by
              rw [List.take_add_one, List.getElem?_eq_getElem hlt, List.getD_eq_getElem?_getD, List.getElem?_eq_getElem hlt]
              exact foldA_snoc _ _ _
            obtain ⟨hat, hcv⟩ := ready_at (HSH.out j hlt)
            have hal : (foldA a0 (out.take j)).length ≤ 16 := foldA_len HA0.out _
            obtain ⟨⟨hr1, hr2⟩, ⟨hn1, hn2⟩, hrr⟩ := HRG.out _ hmem
            obtain ⟨⟨A2, n2, c2, hd2, hv2⟩, hz2⟩ := HNO.out _ hmem
            have hn2z : n2 ≤ 1000000 := by have := hv2.1; omega
            have hone : (out.getD j wrZ).d.oneCell' = true := by rw [hd2]; rfl
            obtain ⟨A7, n7, c7, rfl, hv7, _⟩ := hvk
            have hn7 : n7 ≤ 16 := by have := hv7.1; omega
            have HV2 := Lib.hid ((hv2.below HBr.out).more hsr)
            have HV7 := Lib.hid hv7
            generalize out.getD j wrZ = y at *
            have HFS := Lib.hid hfs
            generalize foldA a0 (out.take j) = a at *
            have HD2 := Lib.hid hd2
            have hw1 : IntKind.i64.wrap (y.n - 1 + 1) = y.n := by rw [IntKind.wrap_i64]; omega
            have hw2 : IntKind.i64.wrap y.n = y.n := by rw [IntKind.wrap_i64]; omega
            have dnn : (y.n != y.n) = false := by simp
            have dq : (y.r == rg) = false := by simpa using hrr
            clear hmem hfs hd2 hv2 hv7 hz2
            go_wp2_with (first | ((with_reducible refine wpList_load_at ?_ 35 (.tmp 67) ?_ b (off + j * 10) y.cells ?_ Try.underlying35 ?_ ?_ HE.out ?_); rfl; rfl; rfl; rfl; (rw [Wr.len]; kernel_rfl)) | (refine wpList_store_blk rfl 35 (.tmp 14) (.tmp 68) rfl wr.heap.size y.cells rfl rfl (Blk.new wr 35 #[.int .i64 0, .int .i64 0, .int .i64 0, .int .i64 0, .slice none 0 0, .string ⟨#[]⟩, .string ⟨#[]⟩, .string ⟨#[]⟩, .bool false, .int .i64 0]) (by rw [Wr.len]; kernel_rfl) rfl (oneAll y hone) ?_; intro w9 ho9 hk9 hs9; clear hs9; have HB9 := Lib.hid ((below_new wr _).trans (hk9.below (fun i hi e => by omega) (by simp))); have HX9 := Lib.hid ho9; clear hk9 ho9))
            have HV79 := Lib.hid (show Vec w9.drew w9.drew.heap.size A7 n7 c7 a from ((HV7.out.below HB9.out).more HB9.out.size).below (Below.refl _ _).drew)
            have HV29 := Lib.hid (show Vec w9.drew w9.drew.heap.size A2 n2 c2 y.z from ((HV2.out.below HB9.out).more HB9.out.size).below (Below.refl _ _).drew)
            refine wp_region_mono nobody (by kernel_rfl) ?_
            -- 0 Op.fieldAddr 35 (Operand.tmp 14) 1
            refine wpMono_take' 0 (v := ?_) rfl (by kernel_rfl) (by kernel_rfl) (by kernel_rfl) (fun _ _ _ h => h) (by rfl) ?_ ?_
            rotate_left
            · (intro W hSw; (first | (have hxx := HX9.out.drew.keeps hSw (fun h => h); have x0 : W.cell? ⟨wr.heap.size, 0, none⟩ = some (.int .i64 y.r) := hxx.cell 0; have x1 : W.cell? ⟨wr.heap.size, 1, none⟩ = some (.int .i64 y.n) := hxx.cell 1; have x4 : W.cell? ⟨wr.heap.size, 4, none⟩ = some (.slice A2 n2 c2) := (hxx.cell 4).trans (congrArg some HD2.out); have hl := hxx.lt) | skip)
               go_simp; first | done | rfl)
            try simp only [Act.put, List.setIfInBounds_toArray, List.set_cons_zero, List.set_cons_succ]
            (try rw [hw1]); (try rw [hw2]); (try rw [dnn]); (try rw [dq])
            -- 1 Op.load 3 (Operand.tmp 69)
            refine wpMono_take' 1 (v := ?_) rfl (by kernel_rfl) (by kernel_rfl) (by kernel_rfl) (fun _ _ _ h => h) (by rfl) ?_ ?_
            rotate_left
            · (intro W hSw; (first | (have hxx := HX9.out.drew.keeps hSw (fun h => h); have x0 : W.cell? ⟨wr.heap.size, 0, none⟩ = some (.int .i64 y.r) := hxx.cell 0; have x1 : W.cell? ⟨wr.heap.size, 1, none⟩ = some (.int .i64 y.n) := hxx.cell 1; have x4 : W.cell? ⟨wr.heap.size, 4, none⟩ = some (.slice A2 n2 c2) := (hxx.cell 4).trans (congrArg some HD2.out); have hl := hxx.lt) | skip)
               go_simp; first | done | rfl)
            try simp only [Act.put, List.setIfInBounds_toArray, List.set_cons_zero, List.set_cons_succ]
            (try rw [hw1]); (try rw [hw2]); (try rw [dnn]); (try rw [dq])
            -- 2 Op.move (Operand.tmp 7)
            refine wpMono_take' 2 (v := ?_) rfl (by kernel_rfl) (by kernel_rfl) (by kernel_rfl) (fun _ _ _ h => h) (by rfl) ?_ ?_
            rotate_left
            · (intro W hSw; (first | (have hxx := HX9.out.drew.keeps hSw (fun h => h); have x0 : W.cell? ⟨wr.heap.size, 0, none⟩ = some (.int .i64 y.r) := hxx.cell 0; have x1 : W.cell? ⟨wr.heap.size, 1, none⟩ = some (.int .i64 y.n) := hxx.cell 1; have x4 : W.cell? ⟨wr.heap.size, 4, none⟩ = some (.slice A2 n2 c2) := (hxx.cell 4).trans (congrArg some HD2.out); have hl := hxx.lt) | skip)
               go_simp; first | done | rfl)
            try simp only [Act.put, List.setIfInBounds_toArray, List.set_cons_zero, List.set_cons_succ]
            (try rw [hw1]); (try rw [hw2]); (try rw [dnn]); (try rw [dq])
            -- 3 Op.fieldAddr 35 (Operand.tmp 14) 0
            refine wpMono_take' 3 (v := ?_) rfl (by kernel_rfl) (by kernel_rfl) (by kernel_rfl) (fun _ _ _ h => h) (by rfl) ?_ ?_
            rotate_left
            · (intro W hSw; (first | (have hxx := HX9.out.drew.keeps hSw (fun h => h); have x0 : W.cell? ⟨wr.heap.size, 0, none⟩ = some (.int .i64 y.r) := hxx.cell 0; have x1 : W.cell? ⟨wr.heap.size, 1, none⟩ = some (.int .i64 y.n) := hxx.cell 1; have x4 : W.cell? ⟨wr.heap.size, 4, none⟩ = some (.slice A2 n2 c2) := (hxx.cell 4).trans (congrArg some HD2.out); have hl := hxx.lt) | skip)
               go_simp; first | done | rfl)
            try simp only [Act.put, List.setIfInBounds_toArray, List.set_cons_zero, List.set_cons_succ]
            (try rw [hw1]); (try rw [hw2]); (try rw [dnn]); (try rw [dq])
            -- 4 Op.load 3 (Operand.tmp 72)
            refine wpMono_take' 4 (v := ?_) rfl (by kernel_rfl) (by kernel_rfl) (by kernel_rfl) (fun _ _ _ h => h) (by rfl) ?_ ?_
            rotate_left
            · (intro W hSw; (first | (have hxx := HX9.out.drew.keeps hSw (fun h => h); have x0 : W.cell? ⟨wr.heap.size, 0, none⟩ = some (.int .i64 y.r) := hxx.cell 0; have x1 : W.cell? ⟨wr.heap.size, 1, none⟩ = some (.int .i64 y.n) := hxx.cell 1; have x4 : W.cell? ⟨wr.heap.size, 4, none⟩ = some (.slice A2 n2 c2) := (hxx.cell 4).trans (congrArg some HD2.out); have hl := hxx.lt) | skip)
               go_simp; first | done | rfl)
            try simp only [Act.put, List.setIfInBounds_toArray, List.set_cons_zero, List.set_cons_succ]
            (try rw [hw1]); (try rw [hw2]); (try rw [dnn]); (try rw [dq])
            -- EFFECT 5 Op.call { callee := Callee.value (Operand.func 8), args := #[Operand.tmp 71, Operand.tmp 73], argTypes := #[26, 3] }
            refine wpMono_one' 5 (by kernel_rfl) rfl (by rfl) (fun K hK => ?_)
            go_simp
            refine (at_ref A7 n7 c7 a y.r _ _ HV79.out).mono ?_
            rintro e w10 ⟨rfl, rfl⟩
            rw [hat]
            refine hK.out _ _ ?_ ?_
            · exact Keeps.refl _ _
            clear hK K
            try simp only [Act.put, List.setIfInBounds_toArray, List.set_cons_zero, List.set_cons_succ]
            (try rw [hw1]); (try rw [hw2]); (try rw [dnn]); (try rw [dq])
            -- 6 Op.binOp BinOp.add 3 (Operand.tmp 74) (Operand.const (Value.int IntKind.i64 1)) 3
            refine wpMono_take' 6 (v := ?_) rfl (by kernel_rfl) (by kernel_rfl) (by kernel_rfl) (fun _ _ _ h => h) (by rfl) ?_ ?_
            rotate_left
            · (intro W hSw; (first | (have hxx := HX9.out.drew.keeps hSw (fun h => h); have x0 : W.cell? ⟨wr.heap.size, 0, none⟩ = some (.int .i64 y.r) := hxx.cell 0; have x1 : W.cell? ⟨wr.heap.size, 1, none⟩ = some (.int .i64 y.n) := hxx.cell 1; have x4 : W.cell? ⟨wr.heap.size, 4, none⟩ = some (.slice A2 n2 c2) := (hxx.cell 4).trans (congrArg some HD2.out); have hl := hxx.lt) | skip)
               go_simp; first | done | rfl)
            try simp only [Act.put, List.setIfInBounds_toArray, List.set_cons_zero, List.set_cons_succ]
            (try rw [hw1]); (try rw [hw2]); (try rw [dnn]); (try rw [dq])
            -- 7 Op.binOp BinOp.neq 3 (Operand.tmp 70) (Operand.tmp 75) 3
            refine wpMono_take' 7 (v := ?_) rfl (by kernel_rfl) (by kernel_rfl) (by kernel_rfl) (fun _ _ _ h => h) (by rfl) ?_ ?_
            rotate_left
            · (intro W hSw; (first | (have hxx := HX9.out.drew.keeps hSw (fun h => h); have x0 : W.cell? ⟨wr.heap.size, 0, none⟩ = some (.int .i64 y.r) := hxx.cell 0; have x1 : W.cell? ⟨wr.heap.size, 1, none⟩ = some (.int .i64 y.n) := hxx.cell 1; have x4 : W.cell? ⟨wr.heap.size, 4, none⟩ = some (.slice A2 n2 c2) := (hxx.cell 4).trans (congrArg some HD2.out); have hl := hxx.lt) | skip)
               go_simp; first | done | rfl)
            try simp only [Act.put, List.setIfInBounds_toArray, List.set_cons_zero, List.set_cons_succ]
            (try rw [hw1]); (try rw [hw2]); (try rw [dnn]); (try rw [dq])
            -- 8 Op.move (Operand.tmp 76)
            refine wpMono_take' 8 (v := ?_) rfl (by kernel_rfl) (by kernel_rfl) (by kernel_rfl) (fun _ _ _ h => h) (by rfl) ?_ ?_
            rotate_left
            · (intro W hSw; (first | (have hxx := HX9.out.drew.keeps hSw (fun h => h); have x0 : W.cell? ⟨wr.heap.size, 0, none⟩ = some (.int .i64 y.r) := hxx.cell 0; have x1 : W.cell? ⟨wr.heap.size, 1, none⟩ = some (.int .i64 y.n) := hxx.cell 1; have x4 : W.cell? ⟨wr.heap.size, 4, none⟩ = some (.slice A2 n2 c2) := (hxx.cell 4).trans (congrArg some HD2.out); have hl := hxx.lt) | skip)
               go_simp; first | done | rfl)
            try simp only [Act.put, List.setIfInBounds_toArray, List.set_cons_zero, List.set_cons_succ]
            (try rw [hw1]); (try rw [hw2]); (try rw [dnn]); (try rw [dq])
            -- 9 Op.move (Operand.tmp 7)
            refine wpMono_take' 9 (v := ?_) rfl (by kernel_rfl) (by kernel_rfl) (by kernel_rfl) (fun _ _ _ h => h) (by rfl) ?_ ?_
            rotate_left
            · (intro W hSw; (first | (have hxx := HX9.out.drew.keeps hSw (fun h => h); have x0 : W.cell? ⟨wr.heap.size, 0, none⟩ = some (.int .i64 y.r) := hxx.cell 0; have x1 : W.cell? ⟨wr.heap.size, 1, none⟩ = some (.int .i64 y.n) := hxx.cell 1; have x4 : W.cell? ⟨wr.heap.size, 4, none⟩ = some (.slice A2 n2 c2) := (hxx.cell 4).trans (congrArg some HD2.out); have hl := hxx.lt) | skip)
               go_simp; first | done | rfl)
            try simp only [Act.put, List.setIfInBounds_toArray, List.set_cons_zero, List.set_cons_succ]
            (try rw [hw1]); (try rw [hw2]); (try rw [dnn]); (try rw [dq])
            -- 10 Op.fieldAddr 35 (Operand.tmp 14) 3
            refine wpMono_take' 10 (v := ?_) rfl (by kernel_rfl) (by kernel_rfl) (by kernel_rfl) (fun _ _ _ h => h) (by rfl) ?_ ?_
            rotate_left
            · (intro W hSw; (first | (have hxx := HX9.out.drew.keeps hSw (fun h => h); have x0 : W.cell? ⟨wr.heap.size, 0, none⟩ = some (.int .i64 y.r) := hxx.cell 0; have x1 : W.cell? ⟨wr.heap.size, 1, none⟩ = some (.int .i64 y.n) := hxx.cell 1; have x4 : W.cell? ⟨wr.heap.size, 4, none⟩ = some (.slice A2 n2 c2) := (hxx.cell 4).trans (congrArg some HD2.out); have hl := hxx.lt) | skip)
               go_simp; first | done | rfl)
            try simp only [Act.put, List.setIfInBounds_toArray, List.set_cons_zero, List.set_cons_succ]
            (try rw [hw1]); (try rw [hw2]); (try rw [dnn]); (try rw [dq])
            -- 11 Op.load 33 (Operand.tmp 79)
            refine wpMono_take' 11 (v := ?_) rfl (by kernel_rfl) (by kernel_rfl) (by kernel_rfl) (fun _ _ _ h => h) (by rfl) ?_ ?_
            rotate_left
            · (intro W hSw; (first | (have hxx := HX9.out.drew.keeps hSw (fun h => h); have x0 : W.cell? ⟨wr.heap.size, 0, none⟩ = some (.int .i64 y.r) := hxx.cell 0; have x1 : W.cell? ⟨wr.heap.size, 1, none⟩ = some (.int .i64 y.n) := hxx.cell 1; have x4 : W.cell? ⟨wr.heap.size, 4, none⟩ = some (.slice A2 n2 c2) := (hxx.cell 4).trans (congrArg some HD2.out); have hl := hxx.lt) | skip)
               go_simp; first | done | rfl)
            try simp only [Act.put, List.setIfInBounds_toArray, List.set_cons_zero, List.set_cons_succ]
            (try rw [hw1]); (try rw [hw2]); (try rw [dnn]); (try rw [dq])
            -- EFFECT 12 Op.call { callee := Callee.value (Operand.func 18), args := #[Operand.tmp 78, Operand.tmp 80], argTypes := #[26, 26] }
            refine wpMono_one' 12 (by kernel_rfl) rfl (by rfl) (fun K hK => ?_)
            go_simp
            refine (covers_ref A7 n7 c7 a A2 n2 c2 y.z _ _ HV79.out HV29.out (by omega) hn2z).mono ?_
            rintro e w10 ⟨rfl, rfl⟩
            rw [hcv]
            refine hK.out _ _ ?_ ?_
            · exact Keeps.refl _ _
            clear hK K
            try simp only [Act.put, List.setIfInBounds_toArray, List.set_cons_zero, List.set_cons_succ]
            (try rw [hw1]); (try rw [hw2]); (try rw [dnn]); (try rw [dq])
            -- 13 Op.unOp UnOp.not 4 (Operand.tmp 81)
            refine wpMono_take' 13 (v := ?_) rfl (by kernel_rfl) (by kernel_rfl) (by kernel_rfl) (fun _ _ _ h => h) (by rfl) ?_ ?_
            rotate_left
            · (intro W hSw; (first | (have hxx := HX9.out.drew.keeps hSw (fun h => h); have x0 : W.cell? ⟨wr.heap.size, 0, none⟩ = some (.int .i64 y.r) := hxx.cell 0; have x1 : W.cell? ⟨wr.heap.size, 1, none⟩ = some (.int .i64 y.n) := hxx.cell 1; have x4 : W.cell? ⟨wr.heap.size, 4, none⟩ = some (.slice A2 n2 c2) := (hxx.cell 4).trans (congrArg some HD2.out); have hl := hxx.lt) | skip)
               go_simp; first | done | rfl)
            try simp only [Act.put, List.setIfInBounds_toArray, List.set_cons_zero, List.set_cons_succ]
            (try rw [hw1]); (try rw [hw2]); (try rw [dnn]); (try rw [dq])
            -- 14 Op.pick (Operand.tmp 77) (Operand.const (Value.bool true)) (Operand.tmp 82)
            refine wpMono_take' 14 (v := ?_) rfl (by kernel_rfl) (by kernel_rfl) (by kernel_rfl) (fun _ _ _ h => h) (by rfl) ?_ ?_
            rotate_left
            · (intro W hSw; (first | (have hxx := HX9.out.drew.keeps hSw (fun h => h); have x0 : W.cell? ⟨wr.heap.size, 0, none⟩ = some (.int .i64 y.r) := hxx.cell 0; have x1 : W.cell? ⟨wr.heap.size, 1, none⟩ = some (.int .i64 y.n) := hxx.cell 1; have x4 : W.cell? ⟨wr.heap.size, 4, none⟩ = some (.slice A2 n2 c2) := (hxx.cell 4).trans (congrArg some HD2.out); have hl := hxx.lt) | skip)
               go_simp; first | done | rfl)
            try simp only [Act.put, List.setIfInBounds_toArray, List.set_cons_zero, List.set_cons_succ]
            (try rw [hw1]); (try rw [hw2]); (try rw [dnn]); (try rw [dq])
            -- 15 Op.move (Operand.tmp 83)
            refine wpMono_take' 15 (v := ?_) rfl (by kernel_rfl) (by kernel_rfl) (by kernel_rfl) (fun _ _ _ h => h) (by rfl) ?_ ?_
            rotate_left
            · (intro W hSw; (first | (have hxx := HX9.out.drew.keeps hSw (fun h => h); have x0 : W.cell? ⟨wr.heap.size, 0, none⟩ = some (.int .i64 y.r) := hxx.cell 0; have x1 : W.cell? ⟨wr.heap.size, 1, none⟩ = some (.int .i64 y.n) := hxx.cell 1; have x4 : W.cell? ⟨wr.heap.size, 4, none⟩ = some (.slice A2 n2 c2) := (hxx.cell 4).trans (congrArg some HD2.out); have hl := hxx.lt) | skip)
               go_simp; first | done | rfl)
            try simp only [Act.put, List.setIfInBounds_toArray, List.set_cons_zero, List.set_cons_succ]
            (try rw [hw1]); (try rw [hw2]); (try rw [dnn]); (try rw [dq])
            -- 16 Op.fieldAddr 35 (Operand.tmp 14) 0
            refine wpMono_take' 16 (v := ?_) rfl (by kernel_rfl) (by kernel_rfl) (by kernel_rfl) (fun _ _ _ h => h) (by rfl) ?_ ?_
            rotate_left
            · (intro W hSw; (first | (have hxx := HX9.out.drew.keeps hSw (fun h => h); have x0 : W.cell? ⟨wr.heap.size, 0, none⟩ = some (.int .i64 y.r) := hxx.cell 0; have x1 : W.cell? ⟨wr.heap.size, 1, none⟩ = some (.int .i64 y.n) := hxx.cell 1; have x4 : W.cell? ⟨wr.heap.size, 4, none⟩ = some (.slice A2 n2 c2) := (hxx.cell 4).trans (congrArg some HD2.out); have hl := hxx.lt) | skip)
               go_simp; first | done | rfl)
            try simp only [Act.put, List.setIfInBounds_toArray, List.set_cons_zero, List.set_cons_succ]
            (try rw [hw1]); (try rw [hw2]); (try rw [dnn]); (try rw [dq])
            -- 17 Op.load 3 (Operand.tmp 85)
            refine wpMono_take' 17 (v := ?_) rfl (by kernel_rfl) (by kernel_rfl) (by kernel_rfl) (fun _ _ _ h => h) (by rfl) ?_ ?_
            rotate_left
            · (intro W hSw; (first | (have hxx := HX9.out.drew.keeps hSw (fun h => h); have x0 : W.cell? ⟨wr.heap.size, 0, none⟩ = some (.int .i64 y.r) := hxx.cell 0; have x1 : W.cell? ⟨wr.heap.size, 1, none⟩ = some (.int .i64 y.n) := hxx.cell 1; have x4 : W.cell? ⟨wr.heap.size, 4, none⟩ = some (.slice A2 n2 c2) := (hxx.cell 4).trans (congrArg some HD2.out); have hl := hxx.lt) | skip)
               go_simp; first | done | rfl)
            try simp only [Act.put, List.setIfInBounds_toArray, List.set_cons_zero, List.set_cons_succ]
            (try rw [hw1]); (try rw [hw2]); (try rw [dnn]); (try rw [dq])
            -- 18 Op.move (Operand.tmp 0)
            refine wpMono_take' 18 (v := ?_) rfl (by kernel_rfl) (by kernel_rfl) (by kernel_rfl) (fun _ _ _ h => h) (by rfl) ?_ ?_
            rotate_left
            · (intro W hSw; (first | (have hxx := HX9.out.drew.keeps hSw (fun h => h); have x0 : W.cell? ⟨wr.heap.size, 0, none⟩ = some (.int .i64 y.r) := hxx.cell 0; have x1 : W.cell? ⟨wr.heap.size, 1, none⟩ = some (.int .i64 y.n) := hxx.cell 1; have x4 : W.cell? ⟨wr.heap.size, 4, none⟩ = some (.slice A2 n2 c2) := (hxx.cell 4).trans (congrArg some HD2.out); have hl := hxx.lt) | skip)
               go_simp; first | done | rfl)
            try simp only [Act.put, List.setIfInBounds_toArray, List.set_cons_zero, List.set_cons_succ]
            (try rw [hw1]); (try rw [hw2]); (try rw [dnn]); (try rw [dq])
            -- 19 Op.binOp BinOp.eql 3 (Operand.tmp 86) (Operand.tmp 87) 3
            refine wpMono_take' 19 (v := ?_) rfl (by kernel_rfl) (by kernel_rfl) (by kernel_rfl) (fun _ _ _ h => h) (by rfl) ?_ ?_
            rotate_left
            · (intro W hSw; (first | (have hxx := HX9.out.drew.keeps hSw (fun h => h); have x0 : W.cell? ⟨wr.heap.size, 0, none⟩ = some (.int .i64 y.r) := hxx.cell 0; have x1 : W.cell? ⟨wr.heap.size, 1, none⟩ = some (.int .i64 y.n) := hxx.cell 1; have x4 : W.cell? ⟨wr.heap.size, 4, none⟩ = some (.slice A2 n2 c2) := (hxx.cell 4).trans (congrArg some HD2.out); have hl := hxx.lt) | skip)
               go_simp; first | done | rfl)
            try simp only [Act.put, List.setIfInBounds_toArray, List.set_cons_zero, List.set_cons_succ]
            (try rw [hw1]); (try rw [hw2]); (try rw [dnn]); (try rw [dq])
            -- 20 Op.pick (Operand.tmp 84) (Operand.const (Value.bool true)) (Operand.tmp 88)
            refine wpMono_take' 20 (v := ?_) rfl (by kernel_rfl) (by kernel_rfl) (by kernel_rfl) (fun _ _ _ h => h) (by rfl) ?_ ?_
            rotate_left
            · (intro W hSw; (first | (have hxx := HX9.out.drew.keeps hSw (fun h => h); have x0 : W.cell? ⟨wr.heap.size, 0, none⟩ = some (.int .i64 y.r) := hxx.cell 0; have x1 : W.cell? ⟨wr.heap.size, 1, none⟩ = some (.int .i64 y.n) := hxx.cell 1; have x4 : W.cell? ⟨wr.heap.size, 4, none⟩ = some (.slice A2 n2 c2) := (hxx.cell 4).trans (congrArg some HD2.out); have hl := hxx.lt) | skip)
               go_simp; first | done | rfl)
            try simp only [Act.put, List.setIfInBounds_toArray, List.set_cons_zero, List.set_cons_succ]
            (try rw [hw1]); (try rw [hw2]); (try rw [dnn]); (try rw [dq])
            refine wpMono_done (by kernel_rfl) ?_ _
            have x0 : w9.drew.cell? ⟨wr.heap.size, 0, none⟩ = some (.int .i64 y.r) := HX9.out.drew.cell 0
            have x1 : w9.drew.cell? ⟨wr.heap.size, 1, none⟩ = some (.int .i64 y.n) := HX9.out.drew.cell 1
            have hl9 := HX9.out.drew.lt
            have HB10 := Lib.hid (show Below wr.heap.size wr w9.drew from HB9.out.drew)
            clear HB9 HX9 HV29
            generalize w9.drew = w10 at *
            go_wp2_with fail
            refine (with_ref A7 n7 c7 a y.r y.n w10 HV79.out (by omega)).mono ?_
            rintro e w11 ⟨v11, rfl, hown, hb11⟩
            have HV11 := Lib.hid (VecAp.fresh (S := S1) hown (Nat.le_trans hsr HB10.out.size) HSM1.out)
            have HB11 := Lib.hid (below_step HBr.out (below_step HB10.out hb11))
            obtain ⟨A11, c11, rfl⟩ := ownsRow_slice hown
            clear hown hb11 x0 x1 hl9
            go_wp2_with fail
            go_roundw
            case rel => exact ⟨j + 1, by omega, by go_num, by rw [HFS.out]; exact HV11.out, HB11.out⟩
            case measure => (simp [intOf]; try omega)
          · obtain rfl : j = out.length := by omega
            rw [List.take_length] at hvk
            have HVK := Lib.hid hvk
            clear hvk
            go_wp2_with fail
            go_roundw
            case rel => exact ⟨k + 1, _, by omega, by go_num, rfl, HEND.out _ _ HBr.out HVK.out⟩
            case measure => (simp [intOf]; try omega)
      | false =>
        go_wp2_with (first | ((with_reducible refine wpList_load_at ?_ 35 (.tmp 58) ?_ wr.heap.size 1 o.x.cells ?_ Try.underlying35 ?_ ?_ HEw.out ?_); rfl; rfl; rfl; rfl; (rw [Wr.len]; kernel_rfl)) | ((with_reducible refine wpList_load_at ?_ 52 (.tmp 38) ?_ b (off + k * 12) o.cells ?_ Try.underlying52 ?_ ?_ HE.out ?_); rfl; rfl; rfl; rfl; (rw [Opd.len]; kernel_rfl)) | ((with_reducible refine wpList_store_blk ?_ 52 (.tmp 10) (.tmp 39) ?_ wr.heap.size o.cells ?_ ?_ (Blk.new wr 52 #[.int .i64 0, .int .i64 0, .int .i64 0, .int .i64 0, .int .i64 0, .slice none 0 0, .string ⟨#[]⟩, .string ⟨#[]⟩, .string ⟨#[]⟩, .bool false, .int .i64 0, .slice none 0 0]) ?_ ?_ hall ?_); rfl; rfl; rfl; rfl; (rw [Opd.len]; kernel_rfl); rfl; intro w9 ho9 hk9 hs9; clear hs9; have HB9 := Lib.hid ((below_new wr _).trans (hk9.below (fun i hi e => absurd hi (by rw [show i = wr.heap.size from e]; omega)) (by simp))); have HEw := Lib.hid (show ∀ q v, o.x.cells[q]? = some v → w9.cell? ⟨wr.heap.size, 1 + q, none⟩ = some v from fun q v hq => ho9_at ho9 hq); have e0 : w9.cell? ⟨wr.heap.size, 0, none⟩ = some (.int .i64 o.k) := ho9.cell 0; have el9 := ho9.lt; have HX9 := Lib.hid ho9; clear hk9 ho9))
        obtain ⟨A2, n2, c2, hd2, hv2⟩ := (HOK.out.below HB9.out).1
        have hn2 : n2 ≤ 1000000 := by have := hv2.1; omega
        refine (offer_any g rg S4 ap ws va4 vw4 o.x A2 n2 c2 w9 (HF4.out.below HB9.out) hd2 hv2 hn2 (HSO.out.part _) (by omega)).mono ?_
        rintro e W1 ⟨q, hq, hoff⟩
        have hw9 : Below w.heap.size w w9 := below_step HB4.out HB9.out
        rcases hoff with ⟨_, ge, rfl, _, hb1, _⟩ | ⟨hc0, d', vo, a, l, out, S1, rfl, hdr, hno⟩
        · have HEND := Lib.hid (HOrd.out.same (below_step HB9.out hb1))
          clear hv2 hb1 hw9 hq HE HEw e0 el9 HX9
          go_wp2_with fail
          go_loopw [7, 14, 65] (fun v _ i wr' => v = .slice A7 n7 c7 ∧ i = .int .i64 0 ∧ wr' = W1) (fun _ _ _ _ => 0)
          case atStart => exact ⟨rfl, rfl, rfl⟩
          case round =>
            obtain ⟨rfl, rfl, rfl⟩ := hrel
            go_wp2_with fail
            go_roundw
            case rel => exact ⟨k + 1, _, by omega, by go_num, rfl, HEND.out⟩
            case measure => (simp [intOf]; try omega)
        obtain ⟨hrt, hxr, hhe, _, _⟩ := offC_zero hc0
        have hseen : VecAp W1 (.slice A7 n7 c7) ap S1 := (HVS.out.below HB9.out).keeps hdr.2.2.2.2.2.1 hdr.2.2.2.2.2.2
        obtain ⟨Ao, co, rfl⟩ := ownsRow_slice hdr.2.2.1
        have hap16 := HF4.out.afew
        have hrp := right_parts hrt
        have hso := HSO.out.insert hq hhe ({ o.x with d := d' } : Wr) rfl rfl
        have hLr : ∀ x ∈ ws.take q ++ ({ o.x with d := d' } : Wr) :: ws.drop q, (1 ≤ x.r ∧ x.r ≤ 16) ∧ (1 ≤ x.n ∧ x.n ≤ 1099511627776) ∧ x.r ≠ rg := fun x hx => by
          rcases mem_ins hx with hx | rfl
          · exact ⟨(HF4.out.rng x hx).1, (HF4.out.rng x hx).2, HRR.out x hx⟩
          · exact ⟨⟨hrp.r0, hrp.r1⟩, ⟨hrp.n0, hrp.n1⟩, hxr⟩
        have hll : (ws.take q ++ ({ o.x with d := d' } : Wr) :: ws.drop q).length ≤ k + 1 := by
          have := hq.1
          simp
          omega
        generalize ws.take q ++ ({ o.x with d := d' } : Wr) :: ws.drop q = ws' at *
        have HEND := Lib.hid (OrdI.next (k := k) hdr HS4.out hw9 hso hLr hll HAP.out HTR.out rfl (by omega))
        have hd1 := hdr
        have HSEEN := Lib.hid hseen
        have HA0 := Lib.hid hap16
        obtain ⟨hst1, ⟨_, _, hf1, _⟩, hrow1, hnum1, _, _, _⟩ := hd1
        obtain ⟨hfa, hsh, hmo, _⟩ := hst1.shown
        have HSM1 := Lib.hid hf1.small
        have hol : out.length ≤ 1000 := by have := hst1.ws_len; omega
        have HSH := Lib.hid hsh
        have HRG := Lib.hid (show ∀ x ∈ out, (1 ≤ x.r ∧ x.r ≤ 16) ∧ (1 ≤ x.n ∧ x.n ≤ 1099511627776) ∧ x.r ≠ rg from fun x hx => hLr x (hmo x hx))
        have HNO := Lib.hid (show ∀ x ∈ out, VecOk W1 x.d x.z ∧ x.z.length ≤ 1000000 from fun x hx => by
          obtain ⟨hn, hf⟩ := (hnum1 x hx).1
          obtain ⟨A, c, e, hv⟩ := Vec.of_own (n := x.z.length) (zs := x.z) hn
          exact ⟨⟨A, _, c, e, hv⟩, hf⟩)
        have HRO := Lib.hid (show Reads W1 W1.heap.size 10 Ao out.length (out.flatMap Wr.cells) from Reads.of_own hrow1)
        clear hst1 hf1 hrow1 hnum1 hfa hsh hmo hdr hLr
        clear hno hw9 hseen hso hll hq hhe hrt hc0 hv2 HE HEw e0 el9 HX9 hap16 HVS
        go_wp2_with fail
        go_loopw [7, 14, 65] (fun v _ i wr => ∃ j : Nat, j ≤ out.length ∧ i = .int .i64 j ∧ VecAp wr v (foldA ap (out.take j)) S1 ∧ Below W1.heap.size W1 wr) (fun _ _ i _ => out.length - (intOf i).toNat)
        case atStart => exact ⟨0, by omega, rfl, HSEEN.out, Below.refl _ _⟩
        case round =>
          obtain ⟨j, hjl, rfl, hvk, hbr⟩ := hrel
          have HBr := Lib.hid hbr
          have hsr := hbr.size
          clear hbr
          by_cases hlt : j < out.length
          · obtain ⟨b, off, rfl, hbl⟩ := HRO.out.at_some (by omega)
            have HE := Lib.hid (show ∀ q v, (out.getD j wrZ).cells[q]? = some v → wr.cell? ⟨b, off + j * 10 + q, none⟩ = some v from fun q v hq => by
              have hq2 : q < 10 := by
                have := (List.getElem?_eq_some_iff.1 hq).1
                rwa [Wr.len] at this
              have h5 := Reads.thing Wr.cells Wr.len HRO.out (k := j) (x := out.getD j wrZ) (by omega) (by rw [List.getD_eq_getElem?_getD, List.getElem?_eq_getElem hlt]; rfl) q hq2
              rw [HBr.out.cell (p := ⟨b, off + j * 10 + q, none⟩) hbl, h5, hq])
            have hmem := getD_mem hlt
            have hfs : foldA ap (out.take (j + 1)) = withL (foldA ap (out.take j)) (out.getD j wrZ).r (out.getD j wrZ).n := by
              rw [List.take_add_one, List.getElem?_eq_getElem hlt, List.getD_eq_getElem?_getD, List.getElem?_eq_getElem hlt]
              exact foldA_snoc _ _ _
            obtain ⟨hat, hcv⟩ := ready_at (HSH.out j hlt)
            have hal : (foldA ap (out.take j)).length ≤ 16 := foldA_len HA0.out _
            obtain ⟨⟨hr1, hr2⟩, ⟨hn1, hn2⟩, hrr⟩ := HRG.out _ hmem
            obtain ⟨⟨A2, n2, c2, hd2, hv2⟩, hz2⟩ := HNO.out _ hmem
            have hn2z : n2 ≤ 1000000 := by have := hv2.1; omega
            have hone : (out.getD j wrZ).d.oneCell' = true := by rw [hd2]; rfl
            obtain ⟨A7, n7, c7, rfl, hv7, _⟩ := hvk
            have hn7 : n7 ≤ 16 := by have := hv7.1; omega
            have HV2 := Lib.hid ((hv2.below HBr.out).more hsr)
            have HV7 := Lib.hid hv7
            generalize out.getD j wrZ = y at *
            have HFS := Lib.hid hfs
            generalize foldA ap (out.take j) = a at *
            have HD2 := Lib.hid hd2
            have hw1 : IntKind.i64.wrap (y.n - 1 + 1) = y.n := by rw [IntKind.wrap_i64]; omega
            have hw2 : IntKind.i64.wrap y.n = y.n := by rw [IntKind.wrap_i64]; omega
            have dnn : (y.n != y.n) = false := by simp
            have dq : (y.r == rg) = false := by simpa using hrr
            clear hmem hfs hd2 hv2 hv7 hz2
            go_wp2_with (first | ((with_reducible refine wpList_load_at ?_ 35 (.tmp 67) ?_ b (off + j * 10) y.cells ?_ Try.underlying35 ?_ ?_ HE.out ?_); rfl; rfl; rfl; rfl; (rw [Wr.len]; kernel_rfl)) | (refine wpList_store_blk rfl 35 (.tmp 14) (.tmp 68) rfl wr.heap.size y.cells rfl rfl (Blk.new wr 35 #[.int .i64 0, .int .i64 0, .int .i64 0, .int .i64 0, .slice none 0 0, .string ⟨#[]⟩, .string ⟨#[]⟩, .string ⟨#[]⟩, .bool false, .int .i64 0]) (by rw [Wr.len]; kernel_rfl) rfl (oneAll y hone) ?_; intro w9 ho9 hk9 hs9; clear hs9; have HB9 := Lib.hid ((below_new wr _).trans (hk9.below (fun i hi e => by omega) (by simp))); have HX9 := Lib.hid ho9; clear hk9 ho9))
            have HV79 := Lib.hid (show Vec w9.drew w9.drew.heap.size A7 n7 c7 a from ((HV7.out.below HB9.out).more HB9.out.size).below (Below.refl _ _).drew)
            have HV29 := Lib.hid (show Vec w9.drew w9.drew.heap.size A2 n2 c2 y.z from ((HV2.out.below HB9.out).more HB9.out.size).below (Below.refl _ _).drew)
            refine wp_region_mono nobody (by kernel_rfl) ?_
            -- 0 Op.fieldAddr 35 (Operand.tmp 14) 1
            refine wpMono_take' 0 (v := ?_) rfl (by kernel_rfl) (by kernel_rfl) (by kernel_rfl) (fun _ _ _ h => h) (by rfl) ?_ ?_
            rotate_left
            · (intro W hSw; (first | (have hxx := HX9.out.drew.keeps hSw (fun h => h); have x0 : W.cell? ⟨wr.heap.size, 0, none⟩ = some (.int .i64 y.r) := hxx.cell 0; have x1 : W.cell? ⟨wr.heap.size, 1, none⟩ = some (.int .i64 y.n) := hxx.cell 1; have x4 : W.cell? ⟨wr.heap.size, 4, none⟩ = some (.slice A2 n2 c2) := (hxx.cell 4).trans (congrArg some HD2.out); have hl := hxx.lt) | skip)
               go_simp; first | done | rfl)
            try simp only [Act.put, List.setIfInBounds_toArray, List.set_cons_zero, List.set_cons_succ]
            (try rw [hw1]); (try rw [hw2]); (try rw [dnn]); (try rw [dq])
            -- 1 Op.load 3 (Operand.tmp 69)
            refine wpMono_take' 1 (v := ?_) rfl (by kernel_rfl) (by kernel_rfl) (by kernel_rfl) (fun _ _ _ h => h) (by rfl) ?_ ?_
            rotate_left
            · (intro W hSw; (first | (have hxx := HX9.out.drew.keeps hSw (fun h => h); have x0 : W.cell? ⟨wr.heap.size, 0, none⟩ = some (.int .i64 y.r) := hxx.cell 0; have x1 : W.cell? ⟨wr.heap.size, 1, none⟩ = some (.int .i64 y.n) := hxx.cell 1; have x4 : W.cell? ⟨wr.heap.size, 4, none⟩ = some (.slice A2 n2 c2) := (hxx.cell 4).trans (congrArg some HD2.out); have hl := hxx.lt) | skip)
               go_simp; first | done | rfl)
            try simp only [Act.put, List.setIfInBounds_toArray, List.set_cons_zero, List.set_cons_succ]
            (try rw [hw1]); (try rw [hw2]); (try rw [dnn]); (try rw [dq])
            -- 2 Op.move (Operand.tmp 7)
            refine wpMono_take' 2 (v := ?_) rfl (by kernel_rfl) (by kernel_rfl) (by kernel_rfl) (fun _ _ _ h => h) (by rfl) ?_ ?_
            rotate_left
            · (intro W hSw; (first | (have hxx := HX9.out.drew.keeps hSw (fun h => h); have x0 : W.cell? ⟨wr.heap.size, 0, none⟩ = some (.int .i64 y.r) := hxx.cell 0; have x1 : W.cell? ⟨wr.heap.size, 1, none⟩ = some (.int .i64 y.n) := hxx.cell 1; have x4 : W.cell? ⟨wr.heap.size, 4, none⟩ = some (.slice A2 n2 c2) := (hxx.cell 4).trans (congrArg some HD2.out); have hl := hxx.lt) | skip)
               go_simp; first | done | rfl)
            try simp only [Act.put, List.setIfInBounds_toArray, List.set_cons_zero, List.set_cons_succ]
            (try rw [hw1]); (try rw [hw2]); (try rw [dnn]); (try rw [dq])
            -- 3 Op.fieldAddr 35 (Operand.tmp 14) 0
            refine wpMono_take' 3 (v := ?_) rfl (by kernel_rfl) (by kernel_rfl) (by kernel_rfl) (fun _ _ _ h => h) (by rfl) ?_ ?_
            rotate_left
            · (intro W hSw; (first | (have hxx := HX9.out.drew.keeps hSw (fun h => h); have x0 : W.cell? ⟨wr.heap.size, 0, none⟩ = some (.int .i64 y.r) := hxx.cell 0; have x1 : W.cell? ⟨wr.heap.size, 1, none⟩ = some (.int .i64 y.n) := hxx.cell 1; have x4 : W.cell? ⟨wr.heap.size, 4, none⟩ = some (.slice A2 n2 c2) := (hxx.cell 4).trans (congrArg some HD2.out); have hl := hxx.lt) | skip)
               go_simp; first | done | rfl)
            try simp only [Act.put, List.setIfInBounds_toArray, List.set_cons_zero, List.set_cons_succ]
            (try rw [hw1]); (try rw [hw2]); (try rw [dnn]); (try rw [dq])
            -- 4 Op.load 3 (Operand.tmp 72)
            refine wpMono_take' 4 (v := ?_) rfl (by kernel_rfl) (by kernel_rfl) (by kernel_rfl) (fun _ _ _ h => h) (by rfl) ?_ ?_
            rotate_left
            · (intro W hSw; (first | (have hxx := HX9.out.drew.keeps hSw (fun h => h); have x0 : W.cell? ⟨wr.heap.size, 0, none⟩ = some (.int .i64 y.r) := hxx.cell 0; have x1 : W.cell? ⟨wr.heap.size, 1, none⟩ = some (.int .i64 y.n) := hxx.cell 1; have x4 : W.cell? ⟨wr.heap.size, 4, none⟩ = some (.slice A2 n2 c2) := (hxx.cell 4).trans (congrArg some HD2.out); have hl := hxx.lt) | skip)
               go_simp; first | done | rfl)
            try simp only [Act.put, List.setIfInBounds_toArray, List.set_cons_zero, List.set_cons_succ]
            (try rw [hw1]); (try rw [hw2]); (try rw [dnn]); (try rw [dq])
            -- EFFECT 5 Op.call { callee := Callee.value (Operand.func 8), args := #[Operand.tmp 71, Operand.tmp 73], argTypes := #[26, 3] }
            refine wpMono_one' 5 (by kernel_rfl) rfl (by rfl) (fun K hK => ?_)
            go_simp
            refine (at_ref A7 n7 c7 a y.r _ _ HV79.out).mono ?_
            rintro e w10 ⟨rfl, rfl⟩
            rw [hat]
            refine hK.out _ _ ?_ ?_
            · exact Keeps.refl _ _
            clear hK K
            try simp only [Act.put, List.setIfInBounds_toArray, List.set_cons_zero, List.set_cons_succ]
            (try rw [hw1]); (try rw [hw2]); (try rw [dnn]); (try rw [dq])
            -- 6 Op.binOp BinOp.add 3 (Operand.tmp 74) (Operand.const (Value.int IntKind.i64 1)) 3
            refine wpMono_take' 6 (v := ?_) rfl (by kernel_rfl) (by kernel_rfl) (by kernel_rfl) (fun _ _ _ h => h) (by rfl) ?_ ?_
            rotate_left
            · (intro W hSw; (first | (have hxx := HX9.out.drew.keeps hSw (fun h => h); have x0 : W.cell? ⟨wr.heap.size, 0, none⟩ = some (.int .i64 y.r) := hxx.cell 0; have x1 : W.cell? ⟨wr.heap.size, 1, none⟩ = some (.int .i64 y.n) := hxx.cell 1; have x4 : W.cell? ⟨wr.heap.size, 4, none⟩ = some (.slice A2 n2 c2) := (hxx.cell 4).trans (congrArg some HD2.out); have hl := hxx.lt) | skip)
               go_simp; first | done | rfl)
            try simp only [Act.put, List.setIfInBounds_toArray, List.set_cons_zero, List.set_cons_succ]
            (try rw [hw1]); (try rw [hw2]); (try rw [dnn]); (try rw [dq])
            -- 7 Op.binOp BinOp.neq 3 (Operand.tmp 70) (Operand.tmp 75) 3
            refine wpMono_take' 7 (v := ?_) rfl (by kernel_rfl) (by kernel_rfl) (by kernel_rfl) (fun _ _ _ h => h) (by rfl) ?_ ?_
            rotate_left
            · (intro W hSw; (first | (have hxx := HX9.out.drew.keeps hSw (fun h => h); have x0 : W.cell? ⟨wr.heap.size, 0, none⟩ = some (.int .i64 y.r) := hxx.cell 0; have x1 : W.cell? ⟨wr.heap.size, 1, none⟩ = some (.int .i64 y.n) := hxx.cell 1; have x4 : W.cell? ⟨wr.heap.size, 4, none⟩ = some (.slice A2 n2 c2) := (hxx.cell 4).trans (congrArg some HD2.out); have hl := hxx.lt) | skip)
               go_simp; first | done | rfl)
            try simp only [Act.put, List.setIfInBounds_toArray, List.set_cons_zero, List.set_cons_succ]
            (try rw [hw1]); (try rw [hw2]); (try rw [dnn]); (try rw [dq])
            -- 8 Op.move (Operand.tmp 76)
            refine wpMono_take' 8 (v := ?_) rfl (by kernel_rfl) (by kernel_rfl) (by kernel_rfl) (fun _ _ _ h => h) (by rfl) ?_ ?_
            rotate_left
            · (intro W hSw; (first | (have hxx := HX9.out.drew.keeps hSw (fun h => h); have x0 : W.cell? ⟨wr.heap.size, 0, none⟩ = some (.int .i64 y.r) := hxx.cell 0; have x1 : W.cell? ⟨wr.heap.size, 1, none⟩ = some (.int .i64 y.n) := hxx.cell 1; have x4 : W.cell? ⟨wr.heap.size, 4, none⟩ = some (.slice A2 n2 c2) := (hxx.cell 4).trans (congrArg some HD2.out); have hl := hxx.lt) | skip)
               go_simp; first | done | rfl)
            try simp only [Act.put, List.setIfInBounds_toArray, List.set_cons_zero, List.set_cons_succ]
            (try rw [hw1]); (try rw [hw2]); (try rw [dnn]); (try rw [dq])
            -- 9 Op.move (Operand.tmp 7)
            refine wpMono_take' 9 (v := ?_) rfl (by kernel_rfl) (by kernel_rfl) (by kernel_rfl) (fun _ _ _ h => h) (by rfl) ?_ ?_
            rotate_left
            · (intro W hSw; (first | (have hxx := HX9.out.drew.keeps hSw (fun h => h); have x0 : W.cell? ⟨wr.heap.size, 0, none⟩ = some (.int .i64 y.r) := hxx.cell 0; have x1 : W.cell? ⟨wr.heap.size, 1, none⟩ = some (.int .i64 y.n) := hxx.cell 1; have x4 : W.cell? ⟨wr.heap.size, 4, none⟩ = some (.slice A2 n2 c2) := (hxx.cell 4).trans (congrArg some HD2.out); have hl := hxx.lt) | skip)
               go_simp; first | done | rfl)
            try simp only [Act.put, List.setIfInBounds_toArray, List.set_cons_zero, List.set_cons_succ]
            (try rw [hw1]); (try rw [hw2]); (try rw [dnn]); (try rw [dq])
            -- 10 Op.fieldAddr 35 (Operand.tmp 14) 3
            refine wpMono_take' 10 (v := ?_) rfl (by kernel_rfl) (by kernel_rfl) (by kernel_rfl) (fun _ _ _ h => h) (by rfl) ?_ ?_
            rotate_left
            · (intro W hSw; (first | (have hxx := HX9.out.drew.keeps hSw (fun h => h); have x0 : W.cell? ⟨wr.heap.size, 0, none⟩ = some (.int .i64 y.r) := hxx.cell 0; have x1 : W.cell? ⟨wr.heap.size, 1, none⟩ = some (.int .i64 y.n) := hxx.cell 1; have x4 : W.cell? ⟨wr.heap.size, 4, none⟩ = some (.slice A2 n2 c2) := (hxx.cell 4).trans (congrArg some HD2.out); have hl := hxx.lt) | skip)
               go_simp; first | done | rfl)
            try simp only [Act.put, List.setIfInBounds_toArray, List.set_cons_zero, List.set_cons_succ]
            (try rw [hw1]); (try rw [hw2]); (try rw [dnn]); (try rw [dq])
            -- 11 Op.load 33 (Operand.tmp 79)
            refine wpMono_take' 11 (v := ?_) rfl (by kernel_rfl) (by kernel_rfl) (by kernel_rfl) (fun _ _ _ h => h) (by rfl) ?_ ?_
            rotate_left
            · (intro W hSw; (first | (have hxx := HX9.out.drew.keeps hSw (fun h => h); have x0 : W.cell? ⟨wr.heap.size, 0, none⟩ = some (.int .i64 y.r) := hxx.cell 0; have x1 : W.cell? ⟨wr.heap.size, 1, none⟩ = some (.int .i64 y.n) := hxx.cell 1; have x4 : W.cell? ⟨wr.heap.size, 4, none⟩ = some (.slice A2 n2 c2) := (hxx.cell 4).trans (congrArg some HD2.out); have hl := hxx.lt) | skip)
               go_simp; first | done | rfl)
            try simp only [Act.put, List.setIfInBounds_toArray, List.set_cons_zero, List.set_cons_succ]
            (try rw [hw1]); (try rw [hw2]); (try rw [dnn]); (try rw [dq])
            -- EFFECT 12 Op.call { callee := Callee.value (Operand.func 18), args := #[Operand.tmp 78, Operand.tmp 80], argTypes := #[26, 26] }
            refine wpMono_one' 12 (by kernel_rfl) rfl (by rfl) (fun K hK => ?_)
            go_simp
            refine (covers_ref A7 n7 c7 a A2 n2 c2 y.z _ _ HV79.out HV29.out (by omega) hn2z).mono ?_
            rintro e w10 ⟨rfl, rfl⟩
            rw [hcv]
            refine hK.out _ _ ?_ ?_
            · exact Keeps.refl _ _
            clear hK K
            try simp only [Act.put, List.setIfInBounds_toArray, List.set_cons_zero, List.set_cons_succ]
            (try rw [hw1]); (try rw [hw2]); (try rw [dnn]); (try rw [dq])
            -- 13 Op.unOp UnOp.not 4 (Operand.tmp 81)
            refine wpMono_take' 13 (v := ?_) rfl (by kernel_rfl) (by kernel_rfl) (by kernel_rfl) (fun _ _ _ h => h) (by rfl) ?_ ?_
            rotate_left
            · (intro W hSw; (first | (have hxx := HX9.out.drew.keeps hSw (fun h => h); have x0 : W.cell? ⟨wr.heap.size, 0, none⟩ = some (.int .i64 y.r) := hxx.cell 0; have x1 : W.cell? ⟨wr.heap.size, 1, none⟩ = some (.int .i64 y.n) := hxx.cell 1; have x4 : W.cell? ⟨wr.heap.size, 4, none⟩ = some (.slice A2 n2 c2) := (hxx.cell 4).trans (congrArg some HD2.out); have hl := hxx.lt) | skip)
               go_simp; first | done | rfl)
            try simp only [Act.put, List.setIfInBounds_toArray, List.set_cons_zero, List.set_cons_succ]
            (try rw [hw1]); (try rw [hw2]); (try rw [dnn]); (try rw [dq])
            -- 14 Op.pick (Operand.tmp 77) (Operand.const (Value.bool true)) (Operand.tmp 82)
            refine wpMono_take' 14 (v := ?_) rfl (by kernel_rfl) (by kernel_rfl) (by kernel_rfl) (fun _ _ _ h => h) (by rfl) ?_ ?_
            rotate_left
            · (intro W hSw; (first | (have hxx := HX9.out.drew.keeps hSw (fun h => h); have x0 : W.cell? ⟨wr.heap.size, 0, none⟩ = some (.int .i64 y.r) := hxx.cell 0; have x1 : W.cell? ⟨wr.heap.size, 1, none⟩ = some (.int .i64 y.n) := hxx.cell 1; have x4 : W.cell? ⟨wr.heap.size, 4, none⟩ = some (.slice A2 n2 c2) := (hxx.cell 4).trans (congrArg some HD2.out); have hl := hxx.lt) | skip)
               go_simp; first | done | rfl)
            try simp only [Act.put, List.setIfInBounds_toArray, List.set_cons_zero, List.set_cons_succ]
            (try rw [hw1]); (try rw [hw2]); (try rw [dnn]); (try rw [dq])
            -- 15 Op.move (Operand.tmp 83)
            refine wpMono_take' 15 (v := ?_) rfl (by kernel_rfl) (by kernel_rfl) (by kernel_rfl) (fun _ _ _ h => h) (by rfl) ?_ ?_
            rotate_left
            · (intro W hSw; (first | (have hxx := HX9.out.drew.keeps hSw (fun h => h); have x0 : W.cell? ⟨wr.heap.size, 0, none⟩ = some (.int .i64 y.r) := hxx.cell 0; have x1 : W.cell? ⟨wr.heap.size, 1, none⟩ = some (.int .i64 y.n) := hxx.cell 1; have x4 : W.cell? ⟨wr.heap.size, 4, none⟩ = some (.slice A2 n2 c2) := (hxx.cell 4).trans (congrArg some HD2.out); have hl := hxx.lt) | skip)
               go_simp; first | done | rfl)
            try simp only [Act.put, List.setIfInBounds_toArray, List.set_cons_zero, List.set_cons_succ]
            (try rw [hw1]); (try rw [hw2]); (try rw [dnn]); (try rw [dq])
            -- 16 Op.fieldAddr 35 (Operand.tmp 14) 0
            refine wpMono_take' 16 (v := ?_) rfl (by kernel_rfl) (by kernel_rfl) (by kernel_rfl) (fun _ _ _ h => h) (by rfl) ?_ ?_
            rotate_left
            · (intro W hSw; (first | (have hxx := HX9.out.drew.keeps hSw (fun h => h); have x0 : W.cell? ⟨wr.heap.size, 0, none⟩ = some (.int .i64 y.r) := hxx.cell 0; have x1 : W.cell? ⟨wr.heap.size, 1, none⟩ = some (.int .i64 y.n) := hxx.cell 1; have x4 : W.cell? ⟨wr.heap.size, 4, none⟩ = some (.slice A2 n2 c2) := (hxx.cell 4).trans (congrArg some HD2.out); have hl := hxx.lt) | skip)
               go_simp; first | done | rfl)
            try simp only [Act.put, List.setIfInBounds_toArray, List.set_cons_zero, List.set_cons_succ]
            (try rw [hw1]); (try rw [hw2]); (try rw [dnn]); (try rw [dq])
            -- 17 Op.load 3 (Operand.tmp 85)
            refine wpMono_take' 17 (v := ?_) rfl (by kernel_rfl) (by kernel_rfl) (by kernel_rfl) (fun _ _ _ h => h) (by rfl) ?_ ?_
            rotate_left
            · (intro W hSw; (first | (have hxx := HX9.out.drew.keeps hSw (fun h => h); have x0 : W.cell? ⟨wr.heap.size, 0, none⟩ = some (.int .i64 y.r) := hxx.cell 0; have x1 : W.cell? ⟨wr.heap.size, 1, none⟩ = some (.int .i64 y.n) := hxx.cell 1; have x4 : W.cell? ⟨wr.heap.size, 4, none⟩ = some (.slice A2 n2 c2) := (hxx.cell 4).trans (congrArg some HD2.out); have hl := hxx.lt) | skip)
               go_simp; first | done | rfl)
            try simp only [Act.put, List.setIfInBounds_toArray, List.set_cons_zero, List.set_cons_succ]
            (try rw [hw1]); (try rw [hw2]); (try rw [dnn]); (try rw [dq])
            -- 18 Op.move (Operand.tmp 0)
            refine wpMono_take' 18 (v := ?_) rfl (by kernel_rfl) (by kernel_rfl) (by kernel_rfl) (fun _ _ _ h => h) (by rfl) ?_ ?_
            rotate_left
            · (intro W hSw; (first | (have hxx := HX9.out.drew.keeps hSw (fun h => h); have x0 : W.cell? ⟨wr.heap.size, 0, none⟩ = some (.int .i64 y.r) := hxx.cell 0; have x1 : W.cell? ⟨wr.heap.size, 1, none⟩ = some (.int .i64 y.n) := hxx.cell 1; have x4 : W.cell? ⟨wr.heap.size, 4, none⟩ = some (.slice A2 n2 c2) := (hxx.cell 4).trans (congrArg some HD2.out); have hl := hxx.lt) | skip)
               go_simp; first | done | rfl)
            try simp only [Act.put, List.setIfInBounds_toArray, List.set_cons_zero, List.set_cons_succ]
            (try rw [hw1]); (try rw [hw2]); (try rw [dnn]); (try rw [dq])
            -- 19 Op.binOp BinOp.eql 3 (Operand.tmp 86) (Operand.tmp 87) 3
            refine wpMono_take' 19 (v := ?_) rfl (by kernel_rfl) (by kernel_rfl) (by kernel_rfl) (fun _ _ _ h => h) (by rfl) ?_ ?_
            rotate_left
            · (intro W hSw; (first | (have hxx := HX9.out.drew.keeps hSw (fun h => h); have x0 : W.cell? ⟨wr.heap.size, 0, none⟩ = some (.int .i64 y.r) := hxx.cell 0; have x1 : W.cell? ⟨wr.heap.size, 1, none⟩ = some (.int .i64 y.n) := hxx.cell 1; have x4 : W.cell? ⟨wr.heap.size, 4, none⟩ = some (.slice A2 n2 c2) := (hxx.cell 4).trans (congrArg some HD2.out); have hl := hxx.lt) | skip)
               go_simp; first | done | rfl)
            try simp only [Act.put, List.setIfInBounds_toArray, List.set_cons_zero, List.set_cons_succ]
            (try rw [hw1]); (try rw [hw2]); (try rw [dnn]); (try rw [dq])
            -- 20 Op.pick (Operand.tmp 84) (Operand.const (Value.bool true)) (Operand.tmp 88)
            refine wpMono_take' 20 (v := ?_) rfl (by kernel_rfl) (by kernel_rfl) (by kernel_rfl) (fun _ _ _ h => h) (by rfl) ?_ ?_
            rotate_left
            · (intro W hSw; (first | (have hxx := HX9.out.drew.keeps hSw (fun h => h); have x0 : W.cell? ⟨wr.heap.size, 0, none⟩ = some (.int .i64 y.r) := hxx.cell 0; have x1 : W.cell? ⟨wr.heap.size, 1, none⟩ = some (.int .i64 y.n) := hxx.cell 1; have x4 : W.cell? ⟨wr.heap.size, 4, none⟩ = some (.slice A2 n2 c2) := (hxx.cell 4).trans (congrArg some HD2.out); have hl := hxx.lt) | skip)
               go_simp; first | done | rfl)
            try simp only [Act.put, List.setIfInBounds_toArray, List.set_cons_zero, List.set_cons_succ]
            (try rw [hw1]); (try rw [hw2]); (try rw [dnn]); (try rw [dq])
            refine wpMono_done (by kernel_rfl) ?_ _
            have x0 : w9.drew.cell? ⟨wr.heap.size, 0, none⟩ = some (.int .i64 y.r) := HX9.out.drew.cell 0
            have x1 : w9.drew.cell? ⟨wr.heap.size, 1, none⟩ = some (.int .i64 y.n) := HX9.out.drew.cell 1
            have hl9 := HX9.out.drew.lt
            have HB10 := Lib.hid (show Below wr.heap.size wr w9.drew from HB9.out.drew)
            clear HB9 HX9 HV29
            generalize w9.drew = w10 at *
            go_wp2_with fail
            refine (with_ref A7 n7 c7 a y.r y.n w10 HV79.out (by omega)).mono ?_
            rintro e w11 ⟨v11, rfl, hown, hb11⟩
            have HV11 := Lib.hid (VecAp.fresh (S := S1) hown (Nat.le_trans hsr HB10.out.size) HSM1.out)
            have HB11 := Lib.hid (below_step HBr.out (below_step HB10.out hb11))
            obtain ⟨A11, c11, rfl⟩ := ownsRow_slice hown
            clear hown hb11 x0 x1 hl9
            go_wp2_with fail
            go_roundw
            case rel => exact ⟨j + 1, by omega, by go_num, by rw [HFS.out]; exact HV11.out, HB11.out⟩
            case measure => (simp [intOf]; try omega)
          · obtain rfl : j = out.length := by omega
            rw [List.take_length] at hvk
            have HVK := Lib.hid hvk
            clear hvk
            go_wp2_with fail
            go_roundw
            case rel => exact ⟨k + 1, _, by omega, by go_num, rfl, HEND.out _ _ HBr.out HVK.out⟩
            case measure => (simp [intOf]; try omega)
    · obtain rfl : k = m := by omega
      obtain ⟨S4, ap, ws, va4, vw4, hf4, hS4, hb4, _, _, _, htr, _, _, _, hvs⟩ := HOrd.out
      obtain ⟨A7, n7, c7, rfl, hv7, _⟩ := hvs
      have HB4 := Lib.hid hb4
      have HF4 := Lib.hid hf4
      have HV7 := Lib.hid hv7
      have HTR := Lib.hid htr
      clear hf4 hS4 hb4 htr hv7
      go_wp2_with fail
      refine (applied_any g rg S4 ap ws va4 vw4 wr HF4.out).mono ?_
      rintro e w5 ⟨v5, rfl, hown5, hb5⟩
      rw [HTR.out] at hown5
      have HB5 := Lib.hid (below_step HB4.out hb5)
      have h7 := HV7.out
      have HN7 := Lib.hid (show Nums w5 w5.heap.size (.slice A7 n7 c7) ap from ⟨A7, n7, c7, rfl, h7.1, Nat.le_trans h7.2.1 h7.2.2.1, ((h7.below hb5).more hb5.size).2.2.2.1⟩)
      obtain ⟨A8, c8, h8, hv8⟩ := Vec.of_own (n := ap.length) (zs := ap) (own_low hown5 (Nat.zero_le _))
      subst h8
      have HN8 := Lib.hid (show Nums w5 w5.heap.size (.slice A8 ap.length c8) ap from ⟨A8, _, c8, rfl, rfl, Nat.le_trans hv8.2.1 hv8.2.2.1, hv8.2.2.2.1⟩)
      clear hown5 hb5 h7 hv8
      go_wp2_with fail
      refine (same_vec _ _ ap w5 HN7.out HN8.out).mono ?_
      rintro e w6 ⟨rfl, hb6⟩
      have HB6 := Lib.hid (below_step HB5.out hb6)
      clear hb6
      go_wp2_with fail
      go_ret
      exact ⟨rfl, HB6.out⟩
end Go.Proofs.Ytedkcpncomgboaa.wDepOrders
