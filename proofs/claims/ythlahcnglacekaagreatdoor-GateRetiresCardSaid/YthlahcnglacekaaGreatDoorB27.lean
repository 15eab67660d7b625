/- Part of GateRetires. -/
import Derived.Test.YthlahcnglacekaaGreatDoorB16
set_option maxRecDepth 100000
set_option maxHeartbeats 16000000
namespace Go.Proofs.YthlahcnglacekaaGreatDoor
namespace jrn
open Go Go.RowKit Go.Lib base rowe err rowc wireb jrnp
theorem plen (p:Part):(pcells p).length=4:=rfl
def pZ:Part:=⟨0,0,0,[]⟩
theorem part_at {w:World} {A:Option Addr} {m B:Nat} {l:List Part} (h:Reads w B 4 A m (l.flatMap pcells)) (hl:l.length=m) {k:Nat} (hk:k<m):∃ b off,A=some ⟨b,off,none⟩∧b<B∧∀ q v,(pcells (l.getD k pZ))[q]?=some v→w.cell? ⟨b,off+k*4+q,none⟩=some v:=by
 obtain ⟨b,off,rfl,hb⟩:=h.at_some (by omega);refine ⟨b,off,rfl,hb,fun q v hq=>?_⟩
 have hq2:q<4:=by
  have:=(List.getElem?_eq_some_iff.1 hq).1
  rwa [plen] at this
 have h5:=Reads.thing pcells plen h (k:=k) (x:=l.getD k pZ) (by omega) (by rw [List.getD_eq_getElem?_getD,List.getElem?_eq_getElem (by omega)];rfl) q hq2;rw [h5,hq]
theorem four_of {w:World} {b off:Nat} {p:Part} (h:∀ q v,(pcells p)[q]?=some v→w.cell? ⟨b,off+q,none⟩=some v) :
  w.cell? ⟨b,off,none⟩=some (.int .i64 p.kind)∧w.cell? ⟨b,off+1,none⟩=some (.int .i64 p.gen)∧w.cell? ⟨b,off+2,none⟩=some (.int .i64 p.place)∧w.cell? ⟨b,off+3,none⟩=some (.string (str p.text)) :=
 ⟨h 0 _ rfl,h 1 _ rfl,h 2 _ rfl,h 3 _ rfl⟩
theorem drop_at {l:List Part} {k:Nat} (h:k<l.length):l.drop k=l.getD k pZ :: l.drop (k+1):=by
 rw [List.drop_eq_getElem_cons h,List.getD_eq_getElem?_getD,List.getElem?_eq_getElem h];rfl
def OrdR (l:List Part) (w:World) (e:Ending) (w':World):Prop:=e=.returned (.bool (ordered l))∧Below w.heap.size w w'
theorem ordered_w (A : Option Addr) (n c : Nat) (l : List Part) (w : World) (hl : l.length = n) (hn : n ≤ 1048576) (hr : Reads w w.heap.size 4 A n (l.flatMap pcells)) : Calls Tryz.prog 134 #[.slice A n c] w (OrdR l w) := by
  have HR := qH hr
  by_cases h0 : n = 0
  · subst h0
    have : l = [] := List.eq_nil_of_length_eq_zero hl;subst this;clear hr HR;go_enter Tryz.func134, Tryz.ntmps134;go_wp2_with fail;go_ret
    exact ⟨rfl, Below.refl _ _⟩
  · obtain ⟨b, off, rfl, hbb, hc⟩ := part_at hr hl (k := 0) (by omega)
    have h1 := four_of hc;rw [Nat.zero_mul, Nat.add_zero] at h1;obtain ⟨x0, x1, x2, x3⟩ := h1;have hcons : l = l.getD 0 pZ :: l.drop 1 := by have := drop_at (l := l) (k := 0) (by omega); simpa using this
    generalize hf : l.getD 0 pZ = f at *;have hord : ordered l = (decide (f.kind = 1)&&ordB f.gen false (l.drop 1)) := by rw [hcons]; rfl
    have HORD := qH hord;have hne : (n==0) = false := by simp; omega
    have hnz : ¬ n = 0 := h0;clear hr hc x1 x2 x3 hcons hord
    by_cases hk : f.kind = 1
    · have hk1 : ((f.kind : Int) != 1) = false := by simp; omega
      have hrd : ordered l = ordB f.gen false (l.drop 1) := by rw [HORD.out, decide_eq_true hk, Bool.true_and]
      generalize hR : ordered l = R at *;go_enter Tryz.func134, Tryz.ntmps134;go_wp2_with fail;have HOR := qH hR;clear HORD hR x0
      go_loopw [3, 18, 4, 5, 23] (fun e i _ _ _ wr' => ∃ (k : Nat) (en : Bool), e = .bool en ∧ i = .int .i64 k ∧ k ≤ n ∧ Below w.heap.size w wr' ∧ ((k = 0 ∧ en = false)∨(0<k ∧ R = ordB f.gen en (l.drop k)))) (fun _ i _ _ _ _ => n-(intOf i).toNat)
      case atStart => exact ⟨0, false, rfl, rfl, by omega, Below.refl _ _, .inl ⟨rfl, rfl⟩⟩
      case round =>
        obtain ⟨k, en, rfl, rfl, hkn, hbw, hcase⟩ := hrel;have hsz := hbw.size
        by_cases hlt : k<n
        · obtain ⟨b', off', hbo, _, hc⟩ := part_at (HR.out.below hbw) hl hlt
          simp only [Option.some.injEq, Addr.mk.injEq, and_true] at hbo;obtain ⟨rfl, rfl⟩ := hbo;obtain ⟨b', off', hbo, _, hc0⟩ := part_at (HR.out.below hbw) hl (k := 0) (by omega);simp only [Option.some.injEq, Addr.mk.injEq, and_true] at hbo;obtain ⟨rfl, rfl⟩ := hbo;rw [hf, Nat.zero_mul, Nat.add_zero] at hc0;have g1 : wr.cell? ⟨b, off+1, none⟩ = some (.int .i64 f.gen) := hc0 1 _ rfl;obtain ⟨e0, e1, e2, e3⟩ := four_of hc;have hbl : b<wr.heap.size := by omega
          rcases hcase with ⟨rfl, rfl⟩ | ⟨hk0, hre⟩
          · rw [hf] at e0 e1 e2 e3
            rw [Nat.zero_mul, Nat.add_zero] at e0 e1 e2 e3;have d1 : ((f.kind : Int)==1) = true := by simp; omega
            have d3 : ((f.kind : Int)==3) = false := by simp; omega
            have d4 : ((f.kind : Int)==4) = false := by simp; omega
            have HBX := qH (below_alloc hbw (.cells #[.int .i64 f.kind, .int .i64 f.gen, .int .i64 f.place, .string (str f.text)] 173));have HRN := qH hrd;clear hrd hc hc0 hk hbw;go_wp2_with fail
            go_quiet (fail)
            go_wp2_with fail;refine ⟨?rel, ?measure⟩
            case rel => exact ⟨1, false, rfl, by go_num, by omega, below_drewN HBX.out _, .inr ⟨by omega, HRN.out⟩⟩
            case measure => simp [intOf]; omega
          · have hd := drop_at (l := l) (k := k) (by omega)
            generalize l.getD k pZ = p at *;rw [hd, ordB] at hre;have HBX := qH (below_alloc hbw (.cells #[.int .i64 p.kind, .int .i64 p.gen, .int .i64 p.place, .string (str p.text)] 173));clear hrd hc hc0 hk hbw hd hf hk1;have hk0' : 0<k := hk0
            by_cases hg : p.gen = f.gen
            · have dg : ((p.gen : Int) != (f.gen : Int)) = false := by simp; omega
              by_cases h1 : p.kind = 1
              · have d1 : ((p.kind : Int)==1) = true := by simp; omega
                have HRN := qH (show R = false from by rw [hre, if_pos (.inr (.inl h1))]);clear hre h1 hg;go_wp2_with fail
                go_quiet (fail)
                go_wp2_with fail;go_ret
                exact ⟨by rw [HOR.out, HRN.out]; rfl, below_drewN HBX.out _⟩
              · have d1 : ((p.kind : Int)==1) = false := by simp; omega
                by_cases h3 : p.kind = 3
                · have d3 : ((p.kind : Int)==3) = true := by simp; omega
                  have d4 : ((p.kind : Int)==4) = false := by simp; omega
                  cases en with
                  | true =>
                    have HRN := qH (show R = false from by rw [hre, if_pos (.inr (.inr (.inl ⟨h3, rfl⟩)))]);clear hre h1 h3 hg;go_wp2_with fail
                    go_quiet (fail)
                    go_wp2_with fail;go_ret
                    exact ⟨by rw [HOR.out, HRN.out]; rfl, below_drewN HBX.out _⟩
                  | false =>
                    have HRN := qH (show R = ordB f.gen true (l.drop (k+1)) from by
                      rw [hre, if_neg (by rintro (h | h | ⟨_, h⟩ | ⟨h, _⟩); · exact h hg
                                          · exact h1 h
                                          · cases h
                                          · omega), Bool.false_or, decide_eq_true h3])
                    clear hre h1 h3 hg;go_wp2_with fail
                    go_quiet (fail)
                    go_wp2_with fail;refine ⟨?rel, ?measure⟩
                    case rel => exact ⟨k+1, true, rfl, by go_num, by omega, below_drewN HBX.out _, .inr ⟨by omega, HRN.out⟩⟩
                    case measure => simp [intOf]; omega
                · have d3 : ((p.kind : Int)==3) = false := by simp; omega
                  by_cases h4 : p.kind = 4 ∧ en = false
                  · obtain ⟨h4, rfl⟩ := h4
                    have d4 : ((p.kind : Int)==4) = true := by simp; omega
                    have HRN := qH (show R = false from by rw [hre, if_pos (.inr (.inr (.inr ⟨h4, rfl⟩)))]);clear hre h1 h3 hg h4;go_wp2_with fail
                    go_quiet (fail)
                    go_wp2_with fail;go_ret
                    exact ⟨by rw [HOR.out, HRN.out]; rfl, below_drewN HBX.out _⟩
                  · have HRN := qH (show R = ordB f.gen en (l.drop (k + 1)) from by
                      rw [hre, if_neg (by rintro (h | h | ⟨h, _⟩ | h); · exact h hg
                                          · exact h1 h
                                          · exact h3 h
                                          · exact h4 h), decide_eq_false h3, Bool.or_false])
                    by_cases hk4 : p.kind = 4
                    · have d4 : ((p.kind : Int)==4) = true := by simp; omega
                      obtain rfl : en = true := by
                        cases en with
                        | true => rfl
                        | false => exact absurd ⟨hk4, rfl⟩ h4
                      clear hre h1 h3 hg h4 hk4;go_wp2_with fail
                      go_quiet (fail)
                      go_wp2_with fail;refine ⟨?rel, ?measure⟩
                      case rel => exact ⟨k+1, true, rfl, by go_num, by omega, below_drewN HBX.out _, .inr ⟨by omega, HRN.out⟩⟩
                      case measure => simp [intOf]; omega
                    · have d4 : ((p.kind : Int)==4) = false := by simp; omega
                      clear hre h1 h3 hg h4 hk4;go_wp2_with fail
                      go_quiet (fail)
                      go_wp2_with fail;refine ⟨?rel, ?measure⟩
                      case rel => exact ⟨k+1, en, rfl, by go_num, by omega, below_drewN HBX.out _, .inr ⟨by omega, HRN.out⟩⟩
                      case measure => simp [intOf]; omega
            · have dg : ((p.gen : Int) != (f.gen : Int)) = true := by simp; omega
              have HRN := qH (show R = false from by rw [hre, if_pos (.inl hg)]);clear hre hg;go_wp2_with fail
              go_quiet (fail)
              go_wp2_with fail;go_ret
              exact ⟨by rw [HOR.out, HRN.out]; rfl, below_drewN HBX.out _⟩
        · obtain rfl : n = k := by omega
          have HRN := qH (show R = en from by
            rcases hcase with ⟨h, _⟩ | ⟨_, h⟩
            · omega
            · rw [h, List.drop_eq_nil_of_le (by omega)]; rfl)
          have HBW := qH hbw;clear hbw hcase hrd hk hf;go_wp2_with fail;go_ret
          exact ⟨by rw [HOR.out, HRN.out]; rfl, HBW.out⟩
    · have hk1 : ((f.kind : Int) != 1) = true := by simp; omega
      have HF := qH (show ordered l = false from by rw [HORD.out, decide_eq_false hk, Bool.false_and]);clear hk;go_enter Tryz.func134, Tryz.ntmps134;go_wp2_with fail;go_ret
      exact ⟨by rw [HF.out]; rfl, Below.refl _ _⟩
end jrn
namespace jrn
open Go Go.RowKit Go.Lib base rowe err rowc wireb jrnp diskp disk monok
theorem part_info:(Tryz.prog.info? 173).map (fun i=>(i.zero,i.size,i.bytes))=some (some (.agg #[.int .i64 0,.int .i64 0,.int .i64 0,.string ⟨#[]⟩]),4,40):=by kernel_rfl
def ends (l:List Part) (k:Nat):List Nat:=(List.range k).map fun i=>(dev (l.take (i+1))).length
theorem ends_next (l:List Part) (k:Nat):ends l (k+1)=ends l k++[(dev (l.take (k+1))).length]:=by
 unfold ends;rw [List.range_succ,List.map_append];rfl
theorem ends_len (l:List Part) (k:Nat):(ends l k).length=k:=by simp [ends]
def OwnP (w:World) (base:Nat) (v:Value) (l:List Part):Prop:=w.ownsRow base 173 4 v l.length (l.flatMap pcells)
theorem OwnP.none (w:World) (base:Nat):OwnP w base (.slice none 0 0) []:=⟨rfl,.inl ⟨rfl,rfl⟩⟩
theorem OwnP.form {w:World} {base:Nat} {v:Value} {l:List Part} (h:OwnP w base v l):∃ A c,v=.slice A l.length c:=ownsRow_slice h
theorem pcells_one (l:List Part):∀ u ∈ l.flatMap pcells,u.oneCell'=true:=by
 intro u hu;obtain ⟨p,_,hu⟩:=List.mem_flatMap.1 hu;simp only [pcells,List.mem_cons,List.not_mem_nil,or_false] at hu
 rcases hu with rfl|rfl|rfl|rfl <;> rfl
structure LookS (w:World) (B g:Nat) (l:List Part) (k:Nat) (vp ve:Value):Prop where
 blk:Blk w g 167 #[vp,ve,.int .i64 (dev (l.take k)).length,.bool false,.bool false]
 parts:OwnP w B vp (l.take k)
 ends_:OwnN w B ve (ends l k)
 lo:g<B
def endOf (w:World) (g:Nat):Nat:=match w.cell? ⟨g,2,none⟩ with
 | some v=>(intOf v).toNat
 | none=>0
theorem LookS.at_ {w:World} {B g:Nat} {l:List Part} {k:Nat} {vp ve:Value} (h:LookS w B g l k vp ve):endOf w g=(dev (l.take k)).length:=by
 unfold endOf;rw [h.blk.cell 2];simp [intOf]
theorem own_low' {w:World} {base base':Nat} {e:TypeId} {size n:Nat} {v:Value} {xs:List Value} (h:w.ownsRow base' e size v n xs) (hb:base≤base'):w.ownsRow base e size v n xs :=
 ⟨h.1,h.2.imp id fun ⟨g,cap,cur,e,h1,r⟩=>⟨g,cap,cur,e,Nat.le_trans hb h1,r⟩⟩
theorem reads_blk' {w:World} {g:Nat} {t:TypeId} {cs:List Value} (h:Blk w g t cs.toArray):Reads w w.heap.size cs.length (some ⟨g,0,none⟩) 1 cs :=
 ⟨by simp,fun _=>⟨g,0,rfl,h.lt,fun j _=>by rw [Nat.zero_add,h.cell j];simp⟩⟩
theorem pone (p:Part):∀ u ∈ pcells p,u.oneCell'=true:=by
 have:=pcells_one [p]
 simpa using this
theorem rows_ne {w:World} {b b':Nat} {e e':TypeId} {s s':Nat} {v v':Value} {n n':Nat} {xs xs':List Value} (h:w.ownsRow b e s v n xs) (h':w.ownsRow b' e' s' v' n' xs') (hne:e≠e'):v.ownBlock=none∨v.ownBlock≠v'.ownBlock:=by
 rcases h.2 with ⟨rfl,_⟩|⟨g,cap,cur,rfl,_,h1,_⟩
 ·exact .inl rfl
 ·right
  intro he
  rcases h'.2 with ⟨rfl,_⟩|⟨g',cap',cur',rfl,_,h2,_⟩
  ·cases he
  ·have:g=g':=by simpa [Value.ownBlock] using he
   subst this;rw [h1] at h2;injection h2 with h2;injection h2 with _ h2;exact hne h2
def zL:Array Value:=#[.slice none 0 0,.slice none 0 0,.int .i64 0,.bool false,.bool false]
structure Mid (w V:World) (cs:Array Value) (vp:Value) (lp:List Part) (ve:Value) (le:List Nat):Prop where
 blk:Blk V (w.heap.size+1) 167 cs
 zero:Blk V w.heap.size 167 zL
 parts:OwnP V (w.heap.size+2) vp lp
 ends_:OwnN V (w.heap.size+2) ve le
 bw:Below w.heap.size w V
section
variable {w V V':World} {cs:Array Value} {vp ve:Value} {lp:List Part} {le:List Nat}
theorem Mid.big (h:Mid w V cs vp lp ve le):w.heap.size+2≤V.heap.size:=h.blk.lt
theorem Mid.below (h:Mid w V cs vp lp ve le) (hb:Below V.heap.size V V'):Mid w V' cs vp lp ve le :=
 ⟨h.blk.below hb h.blk.lt,h.zero.below hb h.zero.lt,own_below h.parts hb,own_below h.ends_ hb,h.bw.trans (hb.mono (by have:=h.big;omega))⟩
theorem Mid.alloc (h:Mid w V cs vp lp ve le) (o:Obj):Mid w (V.alloc o) cs vp lp ve le:=h.below (below_new _ _)
theorem Mid.drew (h:Mid w V cs vp lp ve le):Mid w V.drew cs vp lp ve le:=h.below (Below.refl _ _).drew
theorem below_grown {v:Value} {B:Nat} {e:TypeId} {s n:Nat} {xs:List Value} (hb:Below w.heap.size w V) (hg:V.grownBy V' v.ownBlock) (ho:V.ownsRow B e s v n xs) (hB:w.heap.size≤B):Below w.heap.size w V' :=
 hb.trans ((Keeps.grown (X:=fun i=>w.heap.size≤i) hg fun i hi=>.inl (Nat.le_trans hB (ho.lt i hi).1)).below (fun i hi e=>by omega) hb.size)
theorem Mid.app4 {v6:Value} {p:Part} (h:Mid w V cs vp lp ve le) (ho:V'.ownsRow (w.heap.size+2) 173 4 v6 (lp.length+1) (lp.flatMap pcells++pcells p)) (hg:V.grownBy V' vp.ownBlock):Mid w V' cs v6 (lp++[p]) ve le :=
  ⟨h.blk.grown hg (fun e=>by have:=(h.parts.lt _ e.symm).1;omega),h.zero.grown hg (fun e=>by have:=(h.parts.lt _ e.symm).1;omega),
   by unfold OwnP;rw [List.length_append,List.flatMap_append];simpa using ho,h.ends_.kept hg (rows_ne h.ends_ h.parts (by decide)),below_grown h.bw hg h.parts (by omega)⟩
theorem Mid.app9 {v9:Value} {n:Nat} (h:Mid w V cs vp lp ve le) (ho:V'.ownsRow (w.heap.size+2) 3 1 v9 (le.length+1) (encN le++[.int .i64 (n:Nat)])) (hg:V.grownBy V' ve.ownBlock):Mid w V' cs vp lp v9 (le++[n]) :=
  ⟨h.blk.grown hg (fun e=>by have:=(h.ends_.lt _ e.symm).1;omega),h.zero.grown hg (fun e=>by have:=(h.ends_.lt _ e.symm).1;omega),
   h.parts.kept hg (rows_ne h.parts h.ends_ (by decide)),OwnN.push ho rfl,below_grown h.bw hg h.ends_ (by omega)⟩
theorem Mid.put (h:Mid w V cs vp lp ve le) (i:Nat) (u:Value):Mid w (V.setCell ⟨w.heap.size+1,i,none⟩ u) (cs.setIfInBounds i u) vp lp ve le :=
  ⟨h.blk.set_ i u,h.zero.far (by simp) u,own_keeps h.parts (Keeps.set1 V _ i u) (fun g hg e=>by omega),own_keeps h.ends_ (Keeps.set1 V _ i u) (fun g hg e=>by omega),
   h.bw.trans ((Keeps.set1 V (w.heap.size+1) i u).below (fun i hi e=>by omega) h.bw.size)⟩
end
theorem few_dev (l:List Part):l.length≤(dev l).length:=by
 induction l with
 | nil=>simp
 | cons p l ih=>rw [dev_cons,List.length_append,List.length_cons];have:=seal_pos p;omega
theorem lt_dev {l:List Part} {k:Nat} (h:k<l.length):(dev (l.take k)).length<(dev l).length:=by
 have h1:dev l=dev (l.take k)++dev (l.drop k):=by rw [←dev_app,List.take_append_drop]
 rw [h1,List.length_append,List.drop_eq_getElem_cons h,dev_cons,List.length_append];have:=seal_pos l[k];omega
def ScanR (l:List Part) (w:World) (e:Ending) (w':World):Prop:=∃ vp ve,e=.returned (.tuple #[.agg #[vp,ve,.int .i64 (dev l).length,.bool false,.bool (ordered l)],.nilIface])∧OwnP w' w.heap.size vp l∧OwnN w' w.heap.size ve (endsL l)∧Below w.heap.size w w'
theorem scan_w {S : Nat → Prop} {g : Nat} {d : Dk} (l : List Part) (w : World) (hd : DiskS w S g d) (hw : Well d l) : Calls Tryz.prog 69 #[.pointer (some ⟨g, 0, none⟩)] w (ScanR l w) := by
  have hd0 := hd.below (below_new w (.cells #[.slice none 0 0, .slice none 0 0, .int .i64 0, .bool false, .bool false] 167));have HB0 := qH (below_new w (.cells #[.slice none 0 0, .slice none 0 0, .int .i64 0, .bool false, .bool false] 167));have HZ0 := qH (Blk.new w 167 #[.slice none 0 0, .slice none 0 0, .int .i64 0, .bool false, .bool false]);have hsz0 : (w.alloc (.cells #[.slice none 0 0, .slice none 0 0, .int .i64 0, .bool false, .bool false] 167)).heap.size = w.heap.size+1 := by simp
  have HLN := qH (len_any hd0);have HRD := qH (read_all hd0 hw.down);rw [hw.down] at HLN;have hb := hw.b;have hfew := hw.few;have HOK := qH hw.ok;have hls : (⟨d.b.toArray⟩ : ByteArray).size = (dev l).length := by rw [←hb]; rfl
  have hll : (⟨d.b.toArray⟩ : ByteArray).data.toList = dev l := by rw [←hb]
  have hdl : (dev l).length ≤ 1048576 := by rw [←hb]; exact hfew
  have hz : Tryz.prog.cellsOf 167 = 5 := by kernel_rfl
  rw [hb] at HLN HRD hls hll;have HLL := qH hll;have HLS := qH hls;clear hb hd hd0 hw hz hls hll hfew;obtain ⟨s, hs⟩ : ∃ s, (⟨(dev l).toArray⟩ : ByteArray) = s := ⟨_, rfl⟩;rw [hs] at HRD HLL HLS;obtain ⟨L, hL⟩ : ∃ n, (dev l).length = n := ⟨_, rfl⟩;rw [hL] at HRD HLS hdl HLN;clear hs;have hls := HLS.out;have hlen : l.length ≤ L := by rw [←hL]; exact few_dev l
  obtain ⟨i0, hi0, hz⟩ := Option.map_eq_some_iff.1 part_info;simp only [Prod.mk.injEq] at hz;obtain ⟨hz0, hz1, hz2⟩ := hz;obtain ⟨j0, hj0, hy⟩ := Option.map_eq_some_iff.1 int_info;simp only [Prod.mk.injEq] at hy;obtain ⟨hy0, hy1, hy2⟩ := hy;go_enter Tryz.func69, Tryz.ntmps69;go_wp2_with fail;generalize w.alloc (.cells #[.slice none 0 0, .slice none 0 0, .int .i64 0, .bool false, .bool false] 167) = w0 at *;refine HLN.out.mono ?_;rintro e w1 ⟨rfl, rfl⟩;go_wp2_with fail;refine HRD.out.mono ?_;rintro e w1 ⟨rfl, rfl⟩;clear HRD HLN;go_wp2_with fail;have HZ1 := qH (HZ0.out.alloc (.cells #[.slice none 0 0, .slice none 0 0, .int .i64 0, .bool false, .bool false] 167));have HB1 := qH (below_alloc HB0.out (.cells #[.slice none 0 0, .slice none 0 0, .int .i64 0, .bool false, .bool false] 167))
  have HX1 := qH (show LookS (w1.alloc (.cells #[.slice none 0 0, .slice none 0 0, .int .i64 0, .bool false, .bool false] 167)) (w.heap.size+2) (w.heap.size+1) l 0 (.slice none 0 0) (.slice none 0 0) from
    ⟨by rw [←hsz0]; exact Blk.new _ _ _, OwnP.none _ _, OwnN.none _ _, by omega⟩)
  clear HZ0 HB0
  go_loopw [7, 8, 9] (fun _ _ _ wr => ∃ (k : Nat) (vp ve : Value), k ≤ l.length ∧ LookS wr (w.heap.size+2) (w.heap.size+1) l k vp ve ∧ Blk wr w.heap.size 167 #[.slice none 0 0, .slice none 0 0, .int .i64 0, .bool false, .bool false] ∧ Below w.heap.size w wr) (fun _ _ _ wr => L-endOf wr (w.heap.size+1))
  case atStart => exact ⟨0, _, _, by omega, HX1.out, HZ1.out, HB1.out⟩
  case round =>
    clear HX1 HZ1 HB1;obtain ⟨k, vp, ve, hk, hx, hz, hbw⟩ := hrel;obtain ⟨x0, x1, x2, x3, x4⟩ := (show wr.cell? ⟨w.heap.size+1, 0, none⟩ = some vp ∧ wr.cell? ⟨w.heap.size+1, 1, none⟩ = some ve ∧ wr.cell? ⟨w.heap.size+1, 2, none⟩ = some (.int .i64 (dev (l.take k)).length) ∧ wr.cell? ⟨w.heap.size+1, 3, none⟩ = some (.bool false) ∧ wr.cell? ⟨w.heap.size+1, 4, none⟩ = some (.bool false) from ⟨hx.blk.cell 0, hx.blk.cell 1, hx.blk.cell 2, hx.blk.cell 3, hx.blk.cell 4⟩);have hxl := hx.blk.lt;have Hat := qH hx.at_
    by_cases hkl : k<l.length
    · have hde : (dev (l.take k)).length<L := by rw [←hL]; exact lt_dev hkl
      have hok := HOK.out l[k] (List.getElem_mem hkl);have hdr : s.data.toList.drop (dev (l.take k)).length = l[k].sealed++dev (l.drop (k+1)) := by rw [HLL.out, dev_drop, List.drop_eq_getElem_cons hkl, dev_cons]
      have hnx : (dev (l.take k)).length+l[k].sealed.length = (dev (l.take (k+1))).length := by rw [dev_take l k hkl, List.length_append]
      have HPO := qH (part_open s (dev (l.take k)).length l[k] (dev (l.drop (k+1))) hok (by omega) hdr);rw [hnx] at HPO;have htk : l.take (k+1) = l.take k++[l[k]] := List.take_succ_eq_append_getElem hkl;have hen := ends_next l k;have HX := qH hx.blk;have HPR := qH hx.parts;have HEN := qH hx.ends_;have HZ := qH hz;have HB := qH hbw;generalize l[k] = p at *;generalize (dev (l.take k)).length = e0 at *;generalize hnxe : (dev (l.take (k+1))).length = nx at *;clear hok hdr hx hz hbw x3 x4;have dlt : decide ((e0 : Int)<(L : Int)) = true := decide_eq_true (by omega);go_wp2_with fail;refine (HPO.out _).mono ?_;rintro e w2 ⟨rfl, hb2⟩;have HM2 := qH (show Mid w w2 #[vp, ve, .int .i64 e0, .bool false, .bool false] vp (l.take k) ve (ends l k) from Mid.below ⟨HX.out, HZ.out, HPR.out, HEN.out, HB.out⟩ hb2);clear hb2 HX HZ HPR HEN HB HPO;unfold pcells;go_wp2_with fail;obtain ⟨gp, hgp⟩ : ∃ x, w2.heap.size = x := ⟨_, rfl⟩;have hgpl : w.heap.size+1<gp := by have := HM2.out.big; omega
      have HM := qH (HM2.out.alloc (.cells #[.int .i64 p.kind, .int .i64 p.gen, .int .i64 p.place, .string (str p.text)] 173));have HP := qH (Blk.new w2 173 #[.int .i64 p.kind, .int .i64 p.gen, .int .i64 p.place, .string (str p.text)]);have hvp : ∀ i, vp.ownBlock = some i → i≠gp := fun i hi => by have := (HM2.out.parts.lt i hi).2; omega
      have hve : ∀ i, ve.ownBlock = some i → i≠gp := fun i hi => by have := (HM2.out.ends_.lt i hi).2; omega
      rw [hgp] at HP ⊢;clear HM2 x0 x1 x2;generalize w2.alloc (.cells #[.int .i64 p.kind, .int .i64 p.gen, .int .i64 p.place, .string (str p.text)] 173) = w3 at *;have x0 : w3.cell? ⟨w.heap.size+1, 0, none⟩ = _ := HM.out.blk.cell 0;have x1 : w3.cell? ⟨w.heap.size+1, 1, none⟩ = _ := HM.out.blk.cell 1;have xl := HM.out.blk.lt;simp at x0 x1
      refine wp_region_monoK (fun b => w.heap.size+1<b ∧ b≠gp) [4, 9] (fun b => b = w.heap.size+1) [12, 14, 16] (by kernel_rfl) ?_;refine wpMonoK_take' 0 (v := ?_) rfl (by kernel_rfl) (by kernel_rfl) (by kernel_rfl) (fun _ _ _ h => h) (by rfl) ?_ ?_;rotate_left
      · (intro W hSw; (first | (have hxW := HM.out.blk.drew.keeps hSw (by omega); have y0 : W.cell? ⟨w.heap.size+1, 0, none⟩ = some vp := hxW.cell 0; have y1 : W.cell? ⟨w.heap.size+1, 1, none⟩ = some ve := hxW.cell 1; have exl := hxW.lt) | (have hxW := HP.out.drew.keeps hSw (by omega); obtain ⟨p0, p1, p2, p3⟩ := cells4 hxW; have exl := hxW.lt) | skip); go_simp <;> rfl)
      try simp only [qPA]
      refine wpMonoK_read' 1 [4, 9, 11, 12, 13, 14, 15, 16] (v := ?_) rfl (by kernel_rfl) (by kernel_rfl) (by kernel_rfl) (by kernel_rfl) (by rfl) (fun _ _ _ h => h) (by rfl) ?_ ?_;rotate_left
      · (intro W hSw; (first | (have hxW := HM.out.blk.drew.keeps hSw (by omega); have y0 : W.cell? ⟨w.heap.size+1, 0, none⟩ = some vp := hxW.cell 0; have y1 : W.cell? ⟨w.heap.size+1, 1, none⟩ = some ve := hxW.cell 1; have exl := hxW.lt) | (have hxW := HP.out.drew.keeps hSw (by omega); obtain ⟨p0, p1, p2, p3⟩ := cells4 hxW; have exl := hxW.lt) | skip); go_simp <;> rfl)
      try simp only [qPA]
      refine wpMonoK_take' 2 (v := ?_) rfl (by kernel_rfl) (by kernel_rfl) (by kernel_rfl) (fun _ _ _ h => h) (by rfl) ?_ ?_;rotate_left
      · (intro W hSw; (first | (have hxW := HM.out.blk.drew.keeps hSw (by omega); have y0 : W.cell? ⟨w.heap.size+1, 0, none⟩ = some vp := hxW.cell 0; have y1 : W.cell? ⟨w.heap.size+1, 1, none⟩ = some ve := hxW.cell 1; have exl := hxW.lt) | (have hxW := HP.out.drew.keeps hSw (by omega); obtain ⟨p0, p1, p2, p3⟩ := cells4 hxW; have exl := hxW.lt) | skip); go_simp <;> rfl)
      try simp only [qPA]
      refine wpMonoK_take' 5 (v := ?_) rfl (by kernel_rfl) (by kernel_rfl) (by kernel_rfl) (fun _ _ _ h => h) (by rfl) ?_ ?_;rotate_left
      · (intro W hSw; (first | (have hxW := HM.out.blk.drew.keeps hSw (by omega); have y0 : W.cell? ⟨w.heap.size+1, 0, none⟩ = some vp := hxW.cell 0; have y1 : W.cell? ⟨w.heap.size+1, 1, none⟩ = some ve := hxW.cell 1; have exl := hxW.lt) | (have hxW := HP.out.drew.keeps hSw (by omega); obtain ⟨p0, p1, p2, p3⟩ := cells4 hxW; have exl := hxW.lt) | skip); go_simp <;> rfl)
      try simp only [qPA]
      refine wpMonoK_read' 6 [9, 11, 12, 13, 14, 15, 16] (v := ?_) rfl (by kernel_rfl) (by kernel_rfl) (by kernel_rfl) (by kernel_rfl) (by rfl) (fun _ _ _ h => h) (by rfl) ?_ ?_;rotate_left
      · (intro W hSw; (first | (have hxW := HM.out.blk.drew.keeps hSw (by omega); have y0 : W.cell? ⟨w.heap.size+1, 0, none⟩ = some vp := hxW.cell 0; have y1 : W.cell? ⟨w.heap.size+1, 1, none⟩ = some ve := hxW.cell 1; have exl := hxW.lt) | (have hxW := HP.out.drew.keeps hSw (by omega); obtain ⟨p0, p1, p2, p3⟩ := cells4 hxW; have exl := hxW.lt) | skip); go_simp <;> rfl)
      try simp only [qPA]
      refine wpMonoK_take' 7 (v := ?_) rfl (by kernel_rfl) (by kernel_rfl) (by kernel_rfl) (fun _ _ _ h => h) (by rfl) ?_ ?_;rotate_left
      · (intro W hSw; (first | (have hxW := HM.out.blk.drew.keeps hSw (by omega); have y0 : W.cell? ⟨w.heap.size+1, 0, none⟩ = some vp := hxW.cell 0; have y1 : W.cell? ⟨w.heap.size+1, 1, none⟩ = some ve := hxW.cell 1; have exl := hxW.lt) | (have hxW := HP.out.drew.keeps hSw (by omega); obtain ⟨p0, p1, p2, p3⟩ := cells4 hxW; have exl := hxW.lt) | skip); go_simp <;> rfl)
      try simp only [qPA]
      refine wpMonoK_take' 10 (v := ?_) rfl (by kernel_rfl) (by kernel_rfl) (by kernel_rfl) (fun _ _ _ h => h) (by rfl) ?_ ?_;rotate_left
      · (intro W hSw; (first | (have hxW := HM.out.blk.drew.keeps hSw (by omega); have y0 : W.cell? ⟨w.heap.size+1, 0, none⟩ = some vp := hxW.cell 0; have y1 : W.cell? ⟨w.heap.size+1, 1, none⟩ = some ve := hxW.cell 1; have exl := hxW.lt) | (have hxW := HP.out.drew.keeps hSw (by omega); obtain ⟨p0, p1, p2, p3⟩ := cells4 hxW; have exl := hxW.lt) | skip); go_simp <;> rfl)
      try simp only [qPA]
      clear x0 x1;refine wpMonoK_two' 3 8 (by kernel_rfl) rfl (by rfl) rfl (by rfl) (fun K hK => ?_) (fun K hK => ?_)
      · skip
        go_simp
        refine hK.out _ _ (Go.Proofs.YthlahcnglacekaaGreatDoor.monok.stays (Keeps.alloc _)) ?_;clear hK K
        try simp only [qPA]
        have hm3 := (HM.out.alloc (.cells #[.int .i64 p.kind, .int .i64 p.gen, .int .i64 p.place, .string (str p.text)] 173)).drew;have h3 : Blk ((w3).alloc (.cells #[.int .i64 p.kind, .int .i64 p.gen, .int .i64 p.place, .string (str p.text)] 173)).drew (w3).heap.size 173 (pcells p).toArray := (Blk.new w3 173 (pcells p).toArray).drew
        (try have h8 := (H8.out.alloc (.cells #[.int .i64 p.kind, .int .i64 p.gen, .int .i64 p.place, .string (str p.text)] 173)).drew)
        obtain ⟨g3, hg3⟩ : ∃ x, (w3).heap.size = x := ⟨_, rfl⟩
        (try rw [World.size_drew])
        rw [hg3] at h3 ⊢;clear HM;generalize ((w3).alloc (.cells #[.int .i64 p.kind, .int .i64 p.gen, .int .i64 p.place, .string (str p.text)] 173)).drew = w4 at *;have HM := qH hm3;have H3 := qH h3
        (try have H8 := qH h8)
        clear hm3 h3;refine wpMonoK_two' 4 8 (by kernel_rfl) rfl (by rfl) rfl (by rfl) (fun K hK => ?_) (fun K hK => ?_)
        · skip
          refine wp_append_any _ (.tmp 41) (.tmp 43) _ (by rfl) (w.heap.size+2) 173 i0 _ 4 40 Tryz.underlying165 hi0 hz0 hz1 hz2 rfl (by omega) vp (l.take k).length _ (by rfl) HM.out.parts _ (some ⟨g3, 0, none⟩) 1 1 (pcells p) (by rfl) (reads_blk' H3.out) (pone p) (by rw [List.length_take]; unfold maxLen; omega) (by rw [List.length_take]; omega) HM.out.big fun v6 w5 ho6 hg6 _ => ?_;have hm6 := HM.out.app4 (p := p) ho6 hg6
          (try have H8 := qH (H8.out.grown hg6 (fun e => own_blk_ne HM.out.parts H8.out (by decide) e.symm)))
          refine hK.out _ _ (Go.Proofs.YthlahcnglacekaaGreatDoor.monok.moved (.grown hg6 fun i hi => .inl ⟨by have := (HM.out.parts.lt i hi).1; omega, hvp i hi⟩) (by decide)) ?_;clear hK K
          try simp only [qPA]
          obtain ⟨A6, c6, hv6⟩ := hm6.parts.form;have hl6 : (l.take k++[p]).length = k+1 := by rw [List.length_append, List.length_take]; simp; omega
          rw [hl6] at hv6;subst hv6;clear HM ho6 hg6 hl6;have HM := qH hm6;clear hm6;refine wpMonoK_take' 11 (v := ?_) rfl (by kernel_rfl) (by kernel_rfl) (by kernel_rfl) (fun _ _ _ h => h) (by rfl) ?_ ?_;rotate_left
          · (intro W hSw
             go_simp; first | done | rfl)
          try simp only [qPA]
          refine wpMonoK_one' 8 (by kernel_rfl) rfl (by rfl) (fun K hK => ?_)
          go_simp
          refine hK.out _ _ (Go.Proofs.YthlahcnglacekaaGreatDoor.monok.stays (Keeps.alloc _)) ?_;clear hK K
          try simp only [qPA]
          have hm8 := (HM.out.alloc (.cells #[.int .i64 nx] 3)) ;have h8 : Blk ((w5).alloc (.cells #[.int .i64 nx] 3))  (w5).heap.size 3 #[.int .i64 nx] := (Blk.new w5 3 #[.int .i64 nx])
          (try have h3 := (H3.out.alloc (.cells #[.int .i64 nx] 3)) )
          obtain ⟨g8, hg8⟩ : ∃ x, (w5).heap.size = x := ⟨_, rfl⟩
          (try rw [World.size_drew])
          rw [hg8] at h8 ⊢;clear HM;generalize ((w5).alloc (.cells #[.int .i64 nx] 3))  = w6 at *;have HM := qH hm8;have H8 := qH h8
          (try have H3 := qH h3)
          clear hm8 h8;refine wpMonoK_one' 9 (by kernel_rfl) rfl (by rfl) (fun K hK => ?_);refine wp_append_any _ (.tmp 46) (.tmp 48) _ (by rfl) (w.heap.size+2) 3 j0 _ 1 8 Tryz.underlying34 hj0 hy0 hy1 hy2 rfl (by omega) ve (ends l k).length _ (by rfl) HM.out.ends_ _ (some ⟨g8, 0, none⟩) 1 1 [.int .i64 nx] (by rfl) (reads_blk' H8.out) (by simp [Value.oneCell']) (by rw [ends_len]; unfold maxLen; omega) (by rw [ends_len]; omega) HM.out.big fun v9 w9 ho9 hg9 _ => ?_;have hm9 := HM.out.app9 (n := nx) ho9 hg9;refine hK.out _ _ (Go.Proofs.YthlahcnglacekaaGreatDoor.monok.moved (.grown hg9 fun i hi => .inl ⟨by have := (HM.out.ends_.lt i hi).1; omega, hve i hi⟩) (by decide)) ?_;clear hK K
          try simp only [qPA]
          rw [←hen] at hm9;obtain ⟨A9, c9, hv9⟩ := hm9.ends_.form;rw [ends_len] at hv9;subst hv9;clear HM ho9 hg9;have HM := qH hm9;have q0 : w9.cell? ⟨w.heap.size+1, 0, none⟩ = _ := hm9.blk.cell 0;have q1 : w9.cell? ⟨w.heap.size+1, 1, none⟩ = _ := hm9.blk.cell 1;have q2 : w9.cell? ⟨w.heap.size+1, 2, none⟩ = _ := hm9.blk.cell 2;have f0 := hm9.blk.frozen 0;have f1 := hm9.blk.frozen 1;have f2 := hm9.blk.frozen 2;have ql := hm9.blk.lt;simp at q0 q1 q2
          clear hm9;refine wpMonoK_one' 12 (by kernel_rfl) rfl (by rfl) (fun K hK => ?_)
          go_simp
          refine hK.out _ _ (Go.Proofs.YthlahcnglacekaaGreatDoor.monok.movedL (Keeps.set1 _ _ _ _) (by decide)) ?_;clear hK K
          try simp only [qPA]
          refine wpMonoK_take' 13 (v := ?_) rfl (by kernel_rfl) (by kernel_rfl) (by kernel_rfl) (fun _ _ _ h => h) (by rfl) ?_ ?_;rotate_left
          · (intro W hSw
             go_simp; first | done | rfl)
          try simp only [qPA]
          refine wpMonoK_one' 14 (by kernel_rfl) rfl (by rfl) (fun K hK => ?_)
          go_simp
          refine hK.out _ _ (Go.Proofs.YthlahcnglacekaaGreatDoor.monok.movedL (Keeps.set1 _ _ _ _) (by decide)) ?_;clear hK K
          try simp only [qPA]
          refine wpMonoK_take' 15 (v := ?_) rfl (by kernel_rfl) (by kernel_rfl) (by kernel_rfl) (fun _ _ _ h => h) (by rfl) ?_ ?_;rotate_left
          · (intro W hSw
             go_simp; first | done | rfl)
          try simp only [qPA]
          refine wpMonoK_one' 16 (by kernel_rfl) rfl (by rfl) (fun K hK => ?_)
          go_simp
          refine hK.out _ _ (Go.Proofs.YthlahcnglacekaaGreatDoor.monok.movedL (Keeps.set1 _ _ _ _) (by decide)) ?_;clear hK K
          try simp only [qPA]
          refine wpMonoK_done (by kernel_rfl) ?_ _;have hm10 := ((HM.out.put 0 (.slice A6 (k+1) c6)).put 1 (.slice A9 (k+1) c9)).put 2 (.int .i64 (nx : Nat));simp only [List.setIfInBounds_toArray, List.set_cons_zero, List.set_cons_succ] at hm10;rw [←htk] at hm10;have HM := qH hm10;clear hm10;generalize ((w9.setCell ⟨w.heap.size+1, 0, none⟩ (.slice A6 (k+1) c6)).setCell ⟨w.heap.size+1, 1, none⟩ (.slice A9 (k+1) c9)).setCell ⟨w.heap.size+1, 2, none⟩ (.int .i64 (nx : Nat)) = w10 at *;go_wp2_with fail;have hl10 : LookS w10 (w.heap.size+2) (w.heap.size+1) l (k+1) (.slice A6 (k+1) c6) (.slice A9 (k+1) c9) := ⟨by rw [hnxe]; exact HM.out.blk, HM.out.parts, HM.out.ends_, by omega⟩;refine ⟨⟨k+1, _, _, by omega, hl10, HM.out.zero, HM.out.bw⟩, ?_⟩;rw [hl10.at_, Hat.out, hnxe];have := seal_pos p;omega
        · skip
          go_simp
          refine hK.out _ _ (Go.Proofs.YthlahcnglacekaaGreatDoor.monok.stays (Keeps.alloc _)) ?_;clear hK K
          try simp only [qPA]
          have hm8 := (HM.out.alloc (.cells #[.int .i64 nx] 3)) ;have h8 : Blk ((w4).alloc (.cells #[.int .i64 nx] 3))  (w4).heap.size 3 #[.int .i64 nx] := (Blk.new w4 3 #[.int .i64 nx])
          (try have h3 := (H3.out.alloc (.cells #[.int .i64 nx] 3)) )
          obtain ⟨g8, hg8⟩ : ∃ x, (w4).heap.size = x := ⟨_, rfl⟩
          (try rw [World.size_drew])
          rw [hg8] at h8 ⊢;clear HM;generalize ((w4).alloc (.cells #[.int .i64 nx] 3))  = w5 at *;have HM := qH hm8;have H8 := qH h8
          (try have H3 := qH h3)
          clear hm8 h8;refine wpMonoK_one' 4 (by kernel_rfl) rfl (by rfl) (fun K hK => ?_);refine wp_append_any _ (.tmp 41) (.tmp 43) _ (by rfl) (w.heap.size+2) 173 i0 _ 4 40 Tryz.underlying165 hi0 hz0 hz1 hz2 rfl (by omega) vp (l.take k).length _ (by rfl) HM.out.parts _ (some ⟨g3, 0, none⟩) 1 1 (pcells p) (by rfl) (reads_blk' H3.out) (pone p) (by rw [List.length_take]; unfold maxLen; omega) (by rw [List.length_take]; omega) HM.out.big fun v6 w6 ho6 hg6 _ => ?_;have hm6 := HM.out.app4 (p := p) ho6 hg6
          (try have H8 := qH (H8.out.grown hg6 (fun e => own_blk_ne HM.out.parts H8.out (by decide) e.symm)))
          refine hK.out _ _ (Go.Proofs.YthlahcnglacekaaGreatDoor.monok.moved (.grown hg6 fun i hi => .inl ⟨by have := (HM.out.parts.lt i hi).1; omega, hvp i hi⟩) (by decide)) ?_;clear hK K
          try simp only [qPA]
          obtain ⟨A6, c6, hv6⟩ := hm6.parts.form;have hl6 : (l.take k++[p]).length = k+1 := by rw [List.length_append, List.length_take]; simp; omega
          rw [hl6] at hv6;subst hv6;clear HM ho6 hg6 hl6;have HM := qH hm6;clear hm6;refine wpMonoK_take' 11 (v := ?_) rfl (by kernel_rfl) (by kernel_rfl) (by kernel_rfl) (fun _ _ _ h => h) (by rfl) ?_ ?_;rotate_left
          · (intro W hSw
             go_simp; first | done | rfl)
          try simp only [qPA]
          refine wpMonoK_one' 9 (by kernel_rfl) rfl (by rfl) (fun K hK => ?_);refine wp_append_any _ (.tmp 46) (.tmp 48) _ (by rfl) (w.heap.size+2) 3 j0 _ 1 8 Tryz.underlying34 hj0 hy0 hy1 hy2 rfl (by omega) ve (ends l k).length _ (by rfl) HM.out.ends_ _ (some ⟨g8, 0, none⟩) 1 1 [.int .i64 nx] (by rfl) (reads_blk' H8.out) (by simp [Value.oneCell']) (by rw [ends_len]; unfold maxLen; omega) (by rw [ends_len]; omega) HM.out.big fun v9 w9 ho9 hg9 _ => ?_;have hm9 := HM.out.app9 (n := nx) ho9 hg9;refine hK.out _ _ (Go.Proofs.YthlahcnglacekaaGreatDoor.monok.moved (.grown hg9 fun i hi => .inl ⟨by have := (HM.out.ends_.lt i hi).1; omega, hve i hi⟩) (by decide)) ?_;clear hK K
          try simp only [qPA]
          rw [←hen] at hm9;obtain ⟨A9, c9, hv9⟩ := hm9.ends_.form;rw [ends_len] at hv9;subst hv9;clear HM ho9 hg9;have HM := qH hm9;have q0 : w9.cell? ⟨w.heap.size+1, 0, none⟩ = _ := hm9.blk.cell 0;have q1 : w9.cell? ⟨w.heap.size+1, 1, none⟩ = _ := hm9.blk.cell 1;have q2 : w9.cell? ⟨w.heap.size+1, 2, none⟩ = _ := hm9.blk.cell 2;have f0 := hm9.blk.frozen 0;have f1 := hm9.blk.frozen 1;have f2 := hm9.blk.frozen 2;have ql := hm9.blk.lt;simp at q0 q1 q2
          clear hm9;refine wpMonoK_one' 12 (by kernel_rfl) rfl (by rfl) (fun K hK => ?_)
          go_simp
          refine hK.out _ _ (Go.Proofs.YthlahcnglacekaaGreatDoor.monok.movedL (Keeps.set1 _ _ _ _) (by decide)) ?_;clear hK K
          try simp only [qPA]
          refine wpMonoK_take' 13 (v := ?_) rfl (by kernel_rfl) (by kernel_rfl) (by kernel_rfl) (fun _ _ _ h => h) (by rfl) ?_ ?_;rotate_left
          · (intro W hSw
             go_simp; first | done | rfl)
          try simp only [qPA]
          refine wpMonoK_one' 14 (by kernel_rfl) rfl (by rfl) (fun K hK => ?_)
          go_simp
          refine hK.out _ _ (Go.Proofs.YthlahcnglacekaaGreatDoor.monok.movedL (Keeps.set1 _ _ _ _) (by decide)) ?_;clear hK K
          try simp only [qPA]
          refine wpMonoK_take' 15 (v := ?_) rfl (by kernel_rfl) (by kernel_rfl) (by kernel_rfl) (fun _ _ _ h => h) (by rfl) ?_ ?_;rotate_left
          · (intro W hSw
             go_simp; first | done | rfl)
          try simp only [qPA]
          refine wpMonoK_one' 16 (by kernel_rfl) rfl (by rfl) (fun K hK => ?_)
          go_simp
          refine hK.out _ _ (Go.Proofs.YthlahcnglacekaaGreatDoor.monok.movedL (Keeps.set1 _ _ _ _) (by decide)) ?_;clear hK K
          try simp only [qPA]
          refine wpMonoK_done (by kernel_rfl) ?_ _;have hm10 := ((HM.out.put 0 (.slice A6 (k+1) c6)).put 1 (.slice A9 (k+1) c9)).put 2 (.int .i64 (nx : Nat));simp only [List.setIfInBounds_toArray, List.set_cons_zero, List.set_cons_succ] at hm10;rw [←htk] at hm10;have HM := qH hm10;clear hm10;generalize ((w9.setCell ⟨w.heap.size+1, 0, none⟩ (.slice A6 (k+1) c6)).setCell ⟨w.heap.size+1, 1, none⟩ (.slice A9 (k+1) c9)).setCell ⟨w.heap.size+1, 2, none⟩ (.int .i64 (nx : Nat)) = w10 at *;go_wp2_with fail;have hl10 : LookS w10 (w.heap.size+2) (w.heap.size+1) l (k+1) (.slice A6 (k+1) c6) (.slice A9 (k+1) c9) := ⟨by rw [hnxe]; exact HM.out.blk, HM.out.parts, HM.out.ends_, by omega⟩;refine ⟨⟨k+1, _, _, by omega, hl10, HM.out.zero, HM.out.bw⟩, ?_⟩;rw [hl10.at_, Hat.out, hnxe];have := seal_pos p;omega
      · skip
        go_simp
        refine hK.out _ _ (Go.Proofs.YthlahcnglacekaaGreatDoor.monok.stays (Keeps.alloc _)) ?_;clear hK K
        try simp only [qPA]
        have hm8 := (HM.out.alloc (.cells #[.int .i64 nx] 3)).drew;have h8 : Blk ((w3).alloc (.cells #[.int .i64 nx] 3)).drew (w3).heap.size 3 #[.int .i64 nx] := (Blk.new w3 3 #[.int .i64 nx]).drew
        (try have h3 := (H3.out.alloc (.cells #[.int .i64 nx] 3)).drew)
        obtain ⟨g8, hg8⟩ : ∃ x, (w3).heap.size = x := ⟨_, rfl⟩
        (try rw [World.size_drew])
        rw [hg8] at h8 ⊢;clear HM;generalize ((w3).alloc (.cells #[.int .i64 nx] 3)).drew = w4 at *;have HM := qH hm8;have H8 := qH h8
        (try have H3 := qH h3)
        clear hm8 h8;refine wpMonoK_one' 3 (by kernel_rfl) rfl (by rfl) (fun K hK => ?_)
        go_simp
        refine hK.out _ _ (Go.Proofs.YthlahcnglacekaaGreatDoor.monok.stays (Keeps.alloc _)) ?_;clear hK K
        try simp only [qPA]
        have hm3 := (HM.out.alloc (.cells #[.int .i64 p.kind, .int .i64 p.gen, .int .i64 p.place, .string (str p.text)] 173)) ;have h3 : Blk ((w4).alloc (.cells #[.int .i64 p.kind, .int .i64 p.gen, .int .i64 p.place, .string (str p.text)] 173))  (w4).heap.size 173 (pcells p).toArray := (Blk.new w4 173 (pcells p).toArray)
        (try have h8 := (H8.out.alloc (.cells #[.int .i64 p.kind, .int .i64 p.gen, .int .i64 p.place, .string (str p.text)] 173)) )
        obtain ⟨g3, hg3⟩ : ∃ x, (w4).heap.size = x := ⟨_, rfl⟩
        (try rw [World.size_drew])
        rw [hg3] at h3 ⊢;clear HM;generalize ((w4).alloc (.cells #[.int .i64 p.kind, .int .i64 p.gen, .int .i64 p.place, .string (str p.text)] 173))  = w5 at *;have HM := qH hm3;have H3 := qH h3
        (try have H8 := qH h8)
        clear hm3 h3;refine wpMonoK_one' 4 (by kernel_rfl) rfl (by rfl) (fun K hK => ?_);refine wp_append_any _ (.tmp 41) (.tmp 43) _ (by rfl) (w.heap.size+2) 173 i0 _ 4 40 Tryz.underlying165 hi0 hz0 hz1 hz2 rfl (by omega) vp (l.take k).length _ (by rfl) HM.out.parts _ (some ⟨g3, 0, none⟩) 1 1 (pcells p) (by rfl) (reads_blk' H3.out) (pone p) (by rw [List.length_take]; unfold maxLen; omega) (by rw [List.length_take]; omega) HM.out.big fun v6 w6 ho6 hg6 _ => ?_;have hm6 := HM.out.app4 (p := p) ho6 hg6
        (try have H8 := qH (H8.out.grown hg6 (fun e => own_blk_ne HM.out.parts H8.out (by decide) e.symm)))
        refine hK.out _ _ (Go.Proofs.YthlahcnglacekaaGreatDoor.monok.moved (.grown hg6 fun i hi => .inl ⟨by have := (HM.out.parts.lt i hi).1; omega, hvp i hi⟩) (by decide)) ?_;clear hK K
        try simp only [qPA]
        obtain ⟨A6, c6, hv6⟩ := hm6.parts.form;have hl6 : (l.take k++[p]).length = k+1 := by rw [List.length_append, List.length_take]; simp; omega
        rw [hl6] at hv6;subst hv6;clear HM ho6 hg6 hl6;have HM := qH hm6;clear hm6;refine wpMonoK_take' 11 (v := ?_) rfl (by kernel_rfl) (by kernel_rfl) (by kernel_rfl) (fun _ _ _ h => h) (by rfl) ?_ ?_;rotate_left
        · (intro W hSw
           go_simp; first | done | rfl)
        try simp only [qPA]
        refine wpMonoK_one' 9 (by kernel_rfl) rfl (by rfl) (fun K hK => ?_);refine wp_append_any _ (.tmp 46) (.tmp 48) _ (by rfl) (w.heap.size+2) 3 j0 _ 1 8 Tryz.underlying34 hj0 hy0 hy1 hy2 rfl (by omega) ve (ends l k).length _ (by rfl) HM.out.ends_ _ (some ⟨g8, 0, none⟩) 1 1 [.int .i64 nx] (by rfl) (reads_blk' H8.out) (by simp [Value.oneCell']) (by rw [ends_len]; unfold maxLen; omega) (by rw [ends_len]; omega) HM.out.big fun v9 w9 ho9 hg9 _ => ?_;have hm9 := HM.out.app9 (n := nx) ho9 hg9;refine hK.out _ _ (Go.Proofs.YthlahcnglacekaaGreatDoor.monok.moved (.grown hg9 fun i hi => .inl ⟨by have := (HM.out.ends_.lt i hi).1; omega, hve i hi⟩) (by decide)) ?_;clear hK K
        try simp only [qPA]
        rw [←hen] at hm9;obtain ⟨A9, c9, hv9⟩ := hm9.ends_.form;rw [ends_len] at hv9;subst hv9;clear HM ho9 hg9;have HM := qH hm9;have q0 : w9.cell? ⟨w.heap.size+1, 0, none⟩ = _ := hm9.blk.cell 0;have q1 : w9.cell? ⟨w.heap.size+1, 1, none⟩ = _ := hm9.blk.cell 1;have q2 : w9.cell? ⟨w.heap.size+1, 2, none⟩ = _ := hm9.blk.cell 2;have f0 := hm9.blk.frozen 0;have f1 := hm9.blk.frozen 1;have f2 := hm9.blk.frozen 2;have ql := hm9.blk.lt;simp at q0 q1 q2
        clear hm9;refine wpMonoK_one' 12 (by kernel_rfl) rfl (by rfl) (fun K hK => ?_)
        go_simp
        refine hK.out _ _ (Go.Proofs.YthlahcnglacekaaGreatDoor.monok.movedL (Keeps.set1 _ _ _ _) (by decide)) ?_;clear hK K
        try simp only [qPA]
        refine wpMonoK_take' 13 (v := ?_) rfl (by kernel_rfl) (by kernel_rfl) (by kernel_rfl) (fun _ _ _ h => h) (by rfl) ?_ ?_;rotate_left
        · (intro W hSw
           go_simp; first | done | rfl)
        try simp only [qPA]
        refine wpMonoK_one' 14 (by kernel_rfl) rfl (by rfl) (fun K hK => ?_)
        go_simp
        refine hK.out _ _ (Go.Proofs.YthlahcnglacekaaGreatDoor.monok.movedL (Keeps.set1 _ _ _ _) (by decide)) ?_;clear hK K
        try simp only [qPA]
        refine wpMonoK_take' 15 (v := ?_) rfl (by kernel_rfl) (by kernel_rfl) (by kernel_rfl) (fun _ _ _ h => h) (by rfl) ?_ ?_;rotate_left
        · (intro W hSw
           go_simp; first | done | rfl)
        try simp only [qPA]
        refine wpMonoK_one' 16 (by kernel_rfl) rfl (by rfl) (fun K hK => ?_)
        go_simp
        refine hK.out _ _ (Go.Proofs.YthlahcnglacekaaGreatDoor.monok.movedL (Keeps.set1 _ _ _ _) (by decide)) ?_;clear hK K
        try simp only [qPA]
        refine wpMonoK_done (by kernel_rfl) ?_ _;have hm10 := ((HM.out.put 0 (.slice A6 (k+1) c6)).put 1 (.slice A9 (k+1) c9)).put 2 (.int .i64 (nx : Nat));simp only [List.setIfInBounds_toArray, List.set_cons_zero, List.set_cons_succ] at hm10;rw [←htk] at hm10;have HM := qH hm10;clear hm10;generalize ((w9.setCell ⟨w.heap.size+1, 0, none⟩ (.slice A6 (k+1) c6)).setCell ⟨w.heap.size+1, 1, none⟩ (.slice A9 (k+1) c9)).setCell ⟨w.heap.size+1, 2, none⟩ (.int .i64 (nx : Nat)) = w10 at *;go_wp2_with fail;have hl10 : LookS w10 (w.heap.size+2) (w.heap.size+1) l (k+1) (.slice A6 (k+1) c6) (.slice A9 (k+1) c9) := ⟨by rw [hnxe]; exact HM.out.blk, HM.out.parts, HM.out.ends_, by omega⟩;refine ⟨⟨k+1, _, _, by omega, hl10, HM.out.zero, HM.out.bw⟩, ?_⟩;rw [hl10.at_, Hat.out, hnxe];have := seal_pos p;omega
    · obtain rfl : k = l.length := by omega
      obtain ⟨Ap, cp, rfl⟩ := hx.parts.form;obtain ⟨Ae, ce, rfl⟩ := hx.ends_.form;rw [ends_len] at hx x1;rw [List.take_length] at hx x0 x2;rw [hL] at x2;have hbx := hx.blk;rw [List.take_length, hL] at hbx;have hpx := hx.parts;rw [List.take_length] at hpx;have HM := qH (show Mid w wr #[.slice Ap l.length cp, .slice Ae l.length ce, .int .i64 L, .bool false, .bool false] (.slice Ap l.length cp) l (.slice Ae l.length ce) (ends l l.length) from ⟨hbx, hz, hpx, hx.ends_, hbw⟩);have HRD := qH (Reads.of_own hpx);have dlt : decide ((L : Int)<(L : Int)) = false := by simp
      clear hx hz hbw hbx hpx Hat;go_wp2_with fail;refine (ordered_w Ap l.length cp l _ rfl (by omega) HRD.out).mono ?_;rintro e w2 ⟨rfl, hb2⟩;have hm2 := HM.out.below hb2;have q4 : w2.cell? ⟨w.heap.size+1, 4, none⟩ = _ := hm2.blk.cell 4;have f4 := hm2.blk.frozen 4;have ql := hm2.blk.lt;simp at q4
      have hm3 := hm2.put 4 (.bool (ordered l));simp only [List.setIfInBounds_toArray, List.set_cons_zero, List.set_cons_succ] at hm3;have HM := qH hm3;have HZ := qH hm3.zero;have y0 : (w2.setCell ⟨w.heap.size+1, 4, none⟩ (.bool (ordered l))).cell? ⟨w.heap.size+1, 0, none⟩ = _ := hm3.blk.cell 0;have y1 : (w2.setCell ⟨w.heap.size+1, 4, none⟩ (.bool (ordered l))).cell? ⟨w.heap.size+1, 1, none⟩ = _ := hm3.blk.cell 1;have y2 : (w2.setCell ⟨w.heap.size+1, 4, none⟩ (.bool (ordered l))).cell? ⟨w.heap.size+1, 2, none⟩ = _ := hm3.blk.cell 2;have y3 : (w2.setCell ⟨w.heap.size+1, 4, none⟩ (.bool (ordered l))).cell? ⟨w.heap.size+1, 3, none⟩ = _ := hm3.blk.cell 3;have y4 : (w2.setCell ⟨w.heap.size+1, 4, none⟩ (.bool (ordered l))).cell? ⟨w.heap.size+1, 4, none⟩ = _ := hm3.blk.cell 4;simp at y0 y1 y2 y3 y4
      clear hb2 hm2 hm3 x0 x1 x2 x3 x4;generalize hob : ordered l = ob at *
      go_wp2_with (refine wpList_store_blk rfl 167 (.tmp 2) (.tmp 95) rfl w.heap.size [.slice Ap l.length cp, .slice Ae l.length ce, .int .i64 L, .bool false, .bool ob] rfl rfl HZ.out (by kernel_rfl) rfl rfl ?_; intro w10 ho4 hk4 hs4)
      have HR := qH (show ScanR l w (.returned (.tuple #[.agg #[.slice Ap l.length cp, .slice Ae l.length ce, .int .i64 L, .bool false, .bool ob], .nilIface])) w10 from by
        have hp := own_keeps HM.out.parts hk4 (fun i hi e => by omega);have he := own_keeps HM.out.ends_ hk4 (fun i hi e => by omega);exact ⟨_, _, by rw [hob, hL], own_low' hp (by omega), own_low' he (by omega), HM.out.bw.trans (hk4.below (fun i hi e => by omega) HM.out.bw.size)⟩)
      clear y0 y1 y2 y3 y4 hk4;have p0 : w10.cell? ⟨w.heap.size, 0, none⟩ = _ := ho4.cell 0;have p1 : w10.cell? ⟨w.heap.size, 1, none⟩ = _ := ho4.cell 1;have p2 : w10.cell? ⟨w.heap.size, 2, none⟩ = _ := ho4.cell 2;have p3 : w10.cell? ⟨w.heap.size, 3, none⟩ = _ := ho4.cell 3;have p4 : w10.cell? ⟨w.heap.size, 4, none⟩ = _ := ho4.cell 4;simp at p0 p1 p2 p3 p4
      clear ho4;exact bodyPost_ret (v := .tuple #[.agg #[.slice Ap l.length cp, .slice Ae l.length ce, .int .i64 L, .bool false, .bool ob], .nilIface]) (by simp [results, Tryz.results69, go_sem, p0, p1, p2, p3, p4]) rfl HR.out
end jrn
namespace jrn
open Go Go.RowKit Go.Lib base rowe err rowc wireb jrnp diskp disk
section
variable {w w1 w':World} {S S1:Nat→Prop} {g:Nat} {d:Dk} {r:Dk × Int} {e:Ending}
theorem OpR.behind (hg:Grow S S1 w) (hk:Keeps S w w1) (h:OpR S1 g r w1 e w'):OpR S g r w e w':=by
 obtain ⟨x,S2,h1,h2,h3,h4,h5,h6⟩:=h;exact ⟨x,S2,h1,h2,hg.trans h3 hk.size,h4,grow_keeps hg hk h5,fun k hk'=>⟨Nat.le_trans hk.size (h6 k hk').1,(h6 k hk').2⟩⟩
theorem safe_eq (d:Dk):(if d.down then 0 else d.safe)=safeD d:=rfl
theorem len_eq (d:Dk):(if d.down then 0 else d.b.length)=lenD d:=rfl
theorem mark_any (j:Nat) (gen:Nat) (h1:1≤gen) (h2:gen≤1099511627776) (hd:DiskS w S g d):Calls Tryz.prog 74 #[.pointer (some ⟨j,0,none⟩),.pointer (some ⟨g,0,none⟩),.int .i64 gen] w (OpR S g (markJ d gen) w):=by
 have HM:=qH (show markJ d gen=if (syncD d).2=0 then
   if (appD (syncD d).1 (Part.mk 4 gen (safeD (syncD d).1) []).sealed).2=0 then syncD (appD (syncD d).1 (Part.mk 4 gen (safeD (syncD d).1) []).sealed).1
   else appD (syncD d).1 (Part.mk 4 gen (safeD (syncD d).1) []).sealed
  else syncD d from rfl)
 have HS:=qH (sync_any hd);clear hd;generalize markJ d gen=M at *;generalize syncD d=d1 at *;go_enter Tryz.func74,Tryz.ntmps74;go_wp2_with fail;refine HS.out.mono ?_;rintro e w1 ⟨x,S1,rfl,heo,hgr,hd1,hk1,hx⟩
 by_cases hc:d1.2=0
 ·rw [if_pos hc] at HM
  obtain rfl:x=.nilIface:=by
   rcases heo with ⟨_,h⟩|⟨h,_⟩
   ·exact h
   ·exact absurd hc h
  have HG:=qH hgr;have HK:=qH hk1;have HD:=qH hd1;have hok:=hd1.ok_
  have hpl:safeD d1.1≤1048576:=by
   unfold safeD
   split
   ·omega
   ·exact Nat.le_trans hok.le hok.few
  have HOK:=qH (show (Part.mk 4 gen (safeD d1.1) []).Ok from ⟨by show 1≤4;omega,by show 4≤4;omega,h1,h2,by show safeD d1.1≤_;omega,by show 0≤4096;omega,.inr rfl⟩);have hbl:=jrnp.bytes_len HOK.out;have hsl:((Part.mk 4 gen (safeD d1.1) []).sealed).length≤9000:=by unfold Part.sealed;rw [framep.seal_len];omega
  clear heo hgr hd1 hk1 hx hok hbl;go_wp2_with fail;refine (safe_any HD.out).mono ?_;rintro e w2 ⟨rfl,rfl⟩;rw [safe_eq];have HPS:=qH (part_seal _ HOK.out w2);obtain ⟨q,hq⟩:∃ q,(Part.mk 4 gen (safeD d1.1) []).sealed=q:=⟨_,rfl⟩;rw [hq] at HM hsl HPS;have HPS:=qH (show Calls Tryz.prog 135 #[.agg #[.int .i64 4,.int .i64 gen,.int .i64 (safeD d1.1:Nat),.string ⟨#[]⟩]] w2 fun e w'=>e=.returned (.string (str q))∧Below w2.heap.size w2 w' from HPS.out);generalize safeD d1.1=sf at *;clear HOK hq;go_wp2_with fail;refine HPS.out.mono ?_;rintro e w3 ⟨rfl,hb3⟩;have HD3:=qH (HD.out.below hb3);have HK3:=qH (HK.out.trans (.of_below hb3));clear hb3 HPS HD HK;have HAP:=qH (append_any (str q) (by rw [str_size];omega) HD3.out);rw [str_list] at HAP;generalize appD d1.1 q=d2 at *;go_wp2_with fail;refine HAP.out.mono ?_;rintro e w4 ⟨x,S2,rfl,heo,hgr,hd4,hk4,hx⟩
  by_cases hc2:d2.2=0
  ·rw [if_pos hc2] at HM
   obtain rfl:x=.nilIface:=by
    rcases heo with ⟨_,h⟩|⟨h,_⟩
    ·exact h
    ·exact absurd hc2 h
   have HD4:=qH hd4;have HG4:=qH (HG.out.trans hgr HK3.out.size);have HK4:=qH (grow_keeps HG.out HK3.out hk4);clear heo hgr hd4 hk4 hx HAP HD3 HK3 HG;go_wp2_with fail;refine (sync_any HD4.out).mono ?_;rintro e w5 h5;have HR:=qH (OpR.behind HG4.out HK4.out h5);obtain ⟨x,S3,rfl,heo,_,_,_,_⟩:=h5;have hform:=heo;clear heo;generalize syncD d2.1=d3 at *
   rcases hform with ⟨hz,rfl⟩|⟨hz,he,_⟩
   ·clear hz
    go_wp2_with fail;go_ret
    rw [HM.out];exact HR.out
   ·obtain ⟨kk,rfl⟩:=he.form
    clear hz he;go_wp2_with fail;go_ret
    rw [HM.out];exact HR.out
  ·rw [if_neg hc2] at HM
   have HR:=qH (OpR.behind HG.out HK3.out (show OpR S1 g d2 w3 (.returned x) w4 from ⟨x,S2,rfl,heo,hgr,hd4,hk4,hx⟩))
   rcases heo with ⟨h,_⟩|⟨_,he,_⟩
   ·exact absurd h hc2
   ·obtain ⟨kk,rfl⟩:=he.form
    clear he hgr hd4 hk4 hx;go_wp2_with fail;go_ret
    rw [HM.out];exact HR.out
 ·rw [if_neg hc] at HM
  have HR:=qH (show OpR S g d1 w (.returned x) w1 from ⟨x,S1,rfl,heo,hgr,hd1,hk1,hx⟩)
  rcases heo with ⟨h,_⟩|⟨_,he,_⟩
  ·exact absurd h hc
  ·obtain ⟨kk,rfl⟩:=he.form
   clear he hgr hd1 hk1 hx;go_wp2_with fail;go_ret
   rw [HM.out];exact HR.out
end
theorem app_len (d:Dk) (t:List UInt8):d.b.length≤(appD d t).1.b.length:=by
 have h:=(oper_b d).1;unfold appD
 split
 ·exact Nat.le_refl _
 ·split
  ·show d.b.length≤((operD d).1.b++t).length
   rw [List.length_append,h];omega
  ·rw [h];exact Nat.le_refl _
theorem sync_len (d:Dk):d.b.length≤(syncD d).1.b.length:=by
 have h:=(oper_b d).1;unfold syncD
 split
 ·show d.b.length≤((operD d).1.b).length
  rw [h];exact Nat.le_refl _
 ·rw [h];exact Nat.le_refl _
theorem mark_len (d:Dk) (g:Nat):d.b.length≤(markJ d g).1.b.length:=by
 unfold markJ;have h1:=sync_len d;have h2:=app_len (syncD d).1 (Part.mk 4 g (safeD (syncD d).1) []).sealed
 split
 ·split
  ·have h3:=sync_len (appD (syncD d).1 (Part.mk 4 g (safeD (syncD d).1) []).sealed).1
   omega
  ·omega
 ·omega
theorem write_len (d:Dk) (g:Nat) (t:List UInt8):d.b.length≤(write0 d g t).1.b.length:=by
 unfold write0;have h1:=app_len d t
 split
 ·have h2:=mark_len (appD d t).1 g
  omega
 ·omega
section
variable {w w1 w':World} {S S1:Nat→Prop} {g:Nat} {d:Dk} {e:Ending}
theorem write_any (j gen cut:Nat) (s:ByteArray) (h1:1≤gen) (h2:gen≤1099511627776) (hs:s.size≤1048576) (hc:cut≤d.b.length) (hd:DiskS w S g d) :
  Calls Tryz.prog 117 #[.pointer (some ⟨j,0,none⟩),.pointer (some ⟨g,0,none⟩),.int .i64 gen,.int .i64 cut,.string s] w (OpR S g (writeJ d gen cut s.data.toList) w):=by
 obtain ⟨t,ht⟩:∃ t,s.data.toList=t:=⟨_,rfl⟩;have HA:=qH (append_any s hs hd);rw [ht] at HA ⊢;have HW:=qH (show writeJ d gen cut t=if (write0 d gen t).2=4 then if (cutD (write0 d gen t).1 cut).2=0 then ((cutD (write0 d gen t).1 cut).1,4) else cutD (write0 d gen t).1 cut else write0 d gen t from rfl);have HW0:=qH (show write0 d gen t=if (appD d t).2=0 then markJ (appD d t).1 gen else appD d t from rfl);have hlen:=Nat.le_trans hc (write_len d gen t);clear hd hc;generalize write0 d gen t=W0 at *;generalize appD d t=d1 at *;generalize writeJ d gen cut t=WJ at *;go_enter Tryz.func117,Tryz.ntmps117;go_wp2_with fail;refine HA.out.mono ?_;rintro e w1 ⟨x,S1,rfl,heo,hgr,hd1,hk1,hx⟩
 by_cases hc:d1.2=0
 ·rw [if_pos hc] at HW0
  obtain rfl:x=.nilIface:=by
   rcases heo with ⟨_,h⟩|⟨h,_⟩
   ·exact h
   ·exact absurd hc h
  have HG:=qH hgr;have HK:=qH hk1;have HD:=qH hd1;clear heo hgr hd1 hk1 hx HA;go_wp2_with fail;refine (mark_any j gen h1 h2 HD.out).mono ?_;rw [←HW0.out];rintro e w2 h3;have h4:=OpR.behind HG.out HK.out h3;clear h3 HD HG HK;obtain ⟨x,S2,rfl,heo,hgr,hd2,hk2,hx⟩:=h4;have HE:=qH heo;have HG:=qH hgr;have HD:=qH hd2;have HK:=qH hk2;have HX:=qH hx
  rcases heo with ⟨_,rfl⟩|⟨_,he,_⟩
  ·clear hgr hd2 hk2 hx
   go_wp2_with fail;refine (is_eo .nilIface W0.2 4 _ HE.out).mono ?_;rintro e w9 ⟨rfl,rfl⟩
   by_cases h44:W0.2=4
   ·have hb:(decide (W0.2≠0)&&(W0.2==4))=true:=by rw [h44];rfl
    rw [hb];rw [if_pos h44] at HW;have HC:=qH (cut_any cut hlen HD.out);have HE4:=qH HE.out;rw [h44] at HE4;clear HE hb;generalize cutD W0.1 cut=C at *;go_wp2_with fail;refine HC.out.mono ?_;rintro e w10 ⟨y,S3,rfl,heo3,hgr3,hd3,hk3,hx3⟩
    by_cases hc3:C.2=0
    ·rw [if_pos hc3] at HW
     obtain rfl:y=.nilIface:=by
      rcases heo3 with ⟨_,h⟩|⟨h,_⟩
      ·exact h
      ·exact absurd hc3 h
     have HR:=qH (show OpR S g (C.1,4) w (.returned .nilIface) w10 from ⟨_,S3,rfl,HE4.out.keeps hk3 (fun kk h=>(HX.out kk h).2),HG.out.trans hgr3 HK.out.size,hd3,grow_keeps HG.out HK.out hk3,fun kk h=>⟨(HX.out kk h).1,fun h3=>by
      rcases hgr3.2 kk h3 with h3|h3
      ·exact (HX.out kk h).2 h3
      ·rcases HE4.out with ⟨hz,_⟩|⟨_,⟨k2,hk2,hlt,_⟩,_⟩
       ·cases hz
       ·have:=ptr_inj (hk2.symm.trans h)
        omega⟩⟩)
     clear heo3 hgr3 hd3 hk3 hx3 HC;go_wp2_with fail;go_ret
     rw [HW.out];exact HR.out
    ·rw [if_neg hc3] at HW
     have HR:=qH (OpR.behind HG.out HK.out (show OpR S2 g C _ (.returned y) w10 from ⟨y,S3,rfl,heo3,hgr3,hd3,hk3,hx3⟩))
     rcases heo3 with ⟨h,_⟩|⟨_,he,_⟩
     ·exact absurd h hc3
     ·obtain ⟨k3,rfl⟩:=he.form
      clear he hgr3 hd3 hk3 hx3 HC;go_wp2_with fail;go_ret
      rw [HW.out];exact HR.out
   ·have hb:(decide (W0.2≠0)&&(W0.2==4))=false:=by
     have:(W0.2==4)=false:=by simpa using h44
     rw [this,Bool.and_false]
    rw [hb];rw [if_neg h44] at HW;clear hb;have HR:=qH (show OpR S g W0 w (.returned .nilIface) _ from ⟨_,S2,rfl,HE.out,HG.out,HD.out,HK.out,HX.out⟩);clear HE HG HD HK HX;go_wp2_with fail;go_ret
    rw [HW.out];exact HR.out
  ·obtain ⟨kk,rfl⟩:=he.form
   clear he hgr hd2 hk2 hx;go_wp2_with fail;refine (is_eo (.iface 121 (.pointer (some ⟨kk,0,none⟩))) W0.2 4 _ HE.out).mono ?_;rintro e w9 ⟨rfl,rfl⟩
   by_cases h44:W0.2=4
   ·have hb:(decide (W0.2≠0)&&(W0.2==4))=true:=by rw [h44];rfl
    rw [hb];rw [if_pos h44] at HW;have HC:=qH (cut_any cut hlen HD.out);have HE4:=qH HE.out;rw [h44] at HE4;clear HE hb;generalize cutD W0.1 cut=C at *;go_wp2_with fail;refine HC.out.mono ?_;rintro e w10 ⟨y,S3,rfl,heo3,hgr3,hd3,hk3,hx3⟩
    by_cases hc3:C.2=0
    ·rw [if_pos hc3] at HW
     obtain rfl:y=.nilIface:=by
      rcases heo3 with ⟨_,h⟩|⟨h,_⟩
      ·exact h
      ·exact absurd hc3 h
     have HR:=qH (show OpR S g (C.1,4) w (.returned (.iface 121 (.pointer (some ⟨kk,0,none⟩)))) w10 from ⟨_,S3,rfl,HE4.out.keeps hk3 (fun kk h=>(HX.out kk h).2),HG.out.trans hgr3 HK.out.size,hd3,grow_keeps HG.out HK.out hk3,fun kk h=>⟨(HX.out kk h).1,fun h3=>by
      rcases hgr3.2 kk h3 with h3|h3
      ·exact (HX.out kk h).2 h3
      ·rcases HE4.out with ⟨hz,_⟩|⟨_,⟨k2,hk2,hlt,_⟩,_⟩
       ·cases hz
       ·have:=ptr_inj (hk2.symm.trans h)
        omega⟩⟩)
     clear heo3 hgr3 hd3 hk3 hx3 HC;go_wp2_with fail;go_ret
     rw [HW.out];exact HR.out
    ·rw [if_neg hc3] at HW
     have HR:=qH (OpR.behind HG.out HK.out (show OpR S2 g C _ (.returned y) w10 from ⟨y,S3,rfl,heo3,hgr3,hd3,hk3,hx3⟩))
     rcases heo3 with ⟨h,_⟩|⟨_,he,_⟩
     ·exact absurd h hc3
     ·obtain ⟨k3,rfl⟩:=he.form
      clear he hgr3 hd3 hk3 hx3 HC;go_wp2_with fail;go_ret
      rw [HW.out];exact HR.out
   ·have hb:(decide (W0.2≠0)&&(W0.2==4))=false:=by
     have:(W0.2==4)=false:=by simpa using h44
     rw [this,Bool.and_false]
    rw [hb];rw [if_neg h44] at HW;clear hb;have HR:=qH (show OpR S g W0 w (.returned (.iface 121 (.pointer (some ⟨kk,0,none⟩)))) _ from ⟨_,S2,rfl,HE.out,HG.out,HD.out,HK.out,HX.out⟩);clear HE HG HD HK HX;go_wp2_with fail;go_ret
    rw [HW.out];exact HR.out
 ·rw [if_neg hc] at HW0
  have h4:OpR S g W0 w (.returned x) w1:=by rw [HW0.out];exact ⟨x,S1,rfl,heo,hgr,hd1,hk1,hx⟩
  clear HA
  rcases heo with ⟨h,_⟩|⟨_,he,_⟩
  ·exact absurd h hc
  ·obtain ⟨kk,rfl⟩:=he.form
   clear he hgr hd1 hk1 hx;obtain ⟨x,S2,hxx,heo,hgr,hd2,hk2,hx⟩:=h4;injection hxx with hxx;subst hxx;have HE:=qH heo;have HG:=qH hgr;have HD:=qH hd2;have HK:=qH hk2;have HX:=qH hx;clear heo hgr hd2 hk2 hx;go_wp2_with fail;refine (is_eo (.iface 121 (.pointer (some ⟨kk,0,none⟩))) W0.2 4 _ HE.out).mono ?_;rintro e w9 ⟨rfl,rfl⟩
   by_cases h44:W0.2=4
   ·have hb:(decide (W0.2≠0)&&(W0.2==4))=true:=by rw [h44];rfl
    rw [hb];rw [if_pos h44] at HW;have HC:=qH (cut_any cut hlen HD.out);have HE4:=qH HE.out;rw [h44] at HE4;clear HE hb;generalize cutD W0.1 cut=C at *;go_wp2_with fail;refine HC.out.mono ?_;rintro e w10 ⟨y,S3,rfl,heo3,hgr3,hd3,hk3,hx3⟩
    by_cases hc3:C.2=0
    ·rw [if_pos hc3] at HW
     obtain rfl:y=.nilIface:=by
      rcases heo3 with ⟨_,h⟩|⟨h,_⟩
      ·exact h
      ·exact absurd hc3 h
     have HR:=qH (show OpR S g (C.1,4) w (.returned (.iface 121 (.pointer (some ⟨kk,0,none⟩)))) w10 from ⟨_,S3,rfl,HE4.out.keeps hk3 (fun kk h=>(HX.out kk h).2),HG.out.trans hgr3 HK.out.size,hd3,grow_keeps HG.out HK.out hk3,fun kk h=>⟨(HX.out kk h).1,fun h3=>by
      rcases hgr3.2 kk h3 with h3|h3
      ·exact (HX.out kk h).2 h3
      ·rcases HE4.out with ⟨hz,_⟩|⟨_,⟨k2,hk2,hlt,_⟩,_⟩
       ·cases hz
       ·have:=ptr_inj (hk2.symm.trans h)
        omega⟩⟩)
     clear heo3 hgr3 hd3 hk3 hx3 HC;go_wp2_with fail;go_ret
     rw [HW.out];exact HR.out
    ·rw [if_neg hc3] at HW
     have HR:=qH (OpR.behind HG.out HK.out (show OpR S2 g C _ (.returned y) w10 from ⟨y,S3,rfl,heo3,hgr3,hd3,hk3,hx3⟩))
     rcases heo3 with ⟨h,_⟩|⟨_,he,_⟩
     ·exact absurd h hc3
     ·obtain ⟨k3,rfl⟩:=he.form
      clear he hgr3 hd3 hk3 hx3 HC;go_wp2_with fail;go_ret
      rw [HW.out];exact HR.out
   ·have hb:(decide (W0.2≠0)&&(W0.2==4))=false:=by
     have:(W0.2==4)=false:=by simpa using h44
     rw [this,Bool.and_false]
    rw [hb];rw [if_neg h44] at HW;clear hb;have HR:=qH (show OpR S g W0 w (.returned (.iface 121 (.pointer (some ⟨kk,0,none⟩)))) _ from ⟨_,S2,rfl,HE.out,HG.out,HD.out,HK.out,HX.out⟩);clear HE HG HD HK HX;go_wp2_with fail;go_ret
    rw [HW.out];exact HR.out
end
end jrn
namespace jrn
open Go Go.RowKit Go.Lib base rowe err rowc wireb jrnp diskp disk appb
def scells (l:List (List UInt8)):List Value:=l.map fun s=>.string (str s)
theorem frames_next {d:Dk} {gen:Nat} {rs:List (List UInt8)} {k:Nat} (h:k<rs.length):framesB d gen (rs.take (k+1))=framesB d gen (rs.take k)++(Part.mk 2 gen (safeD d) rs[k]).sealed:=by
 have e:rs.take (k+1)=rs.take k++[rs[k]]:=List.take_succ_eq_append_getElem h;unfold framesB;rw [e,List.flatMap_append];simp
theorem frames_le (d:Dk) (gen:Nat) (rs:List (List UInt8)) (k:Nat):(framesB d gen (rs.take k)).length≤(framesB d gen rs).length:=by
 have:framesB d gen rs=framesB d gen (rs.take k)++framesB d gen (rs.drop k):=by
  unfold framesB;rw [←List.flatMap_append,List.take_append_drop]
 rw [this,List.length_append];omega
section
variable {w w1 w':World} {S:Nat→Prop} {g:Nat} {d:Dk}
theorem frames_w (j gen n c:Nat) (A:Option Addr) (rs:List (List UInt8)) (h1:1≤gen) (h2:gen≤1099511627776) (hl:rs.length=n) (hn:n≤1000000) (hrs:∀ s ∈ rs,s.length≤4096) (hf:(framesB d gen rs).length≤1048576)
  (hr:Reads w w.heap.size 1 A n (scells rs)) (hd:DiskS w S g d) :
  Calls Tryz.prog 118 #[.pointer (some ⟨j,0,none⟩),.pointer (some ⟨g,0,none⟩),.int .i64 gen,.slice A n c] w fun e w'=>e=.returned (.string (str (framesB d gen rs)))∧Below w.heap.size w w':=by
 obtain ⟨i0,hi,hz⟩:=Option.map_eq_some_iff.1 disk.byte_info;simp only [Prod.mk.injEq] at hz;obtain ⟨hz0,hz1,hz2⟩:=hz;have hok:=hd.ok_
 have hpl:safeD d≤1048576:=by
  unfold safeD
  split
  ·omega
  ·exact Nat.le_trans hok.le hok.few
 have HR:=qH hr;have HD:=qH hd;have HRS:=qH hrs;clear hr hd hrs hok;go_enter Tryz.func118,Tryz.ntmps118;go_wp2_with fail
 go_loopw [9,14,11] (fun o i _ wr=>∃ k:Nat,i=.int .i64 k∧k≤n∧OwnB wr w.heap.size o (framesB d gen (rs.take k))∧Below w.heap.size w wr) (fun _ i _ _=>n-(intOf i).toNat)
 case atStart=>exact ⟨0,rfl,by omega,OwnB.none _ _,Below.refl _ _⟩
 case round =>
  obtain ⟨k,rfl,hk,hown,hbw⟩:=hrel;have hsz:=hbw.size;have hle:=frames_le d gen rs k
  by_cases hkn:k<n
  ·have dk:decide ((k:Int)<(n:Int))=true:=decide_eq_true (by omega)
   have hkr:k<rs.length:=by omega
   obtain ⟨b,off,rfl,hbb⟩:=HR.out.at_some (by omega);have hc:wr.cell? ⟨b,off+k,none⟩=some (.string (str rs[k])):=(HR.out.below hbw).get (by omega) (by simp only [scells,List.getElem?_map,List.getElem?_eq_getElem hkr,Option.map_some]);have HNX:=qH (frames_next (d:=d) (gen:=gen) hkr);have hsl:=HRS.out rs[k] (List.getElem_mem hkr);have hle2:=frames_le d gen rs (k+1);rw [HNX.out,List.length_append] at hle2;generalize rs[k]=s at *;have HOK:=qH (show (Part.mk 2 gen (safeD d) s).Ok from ⟨by show 1≤2;omega,by show 2≤4;omega,h1,h2,by show safeD d≤_;omega,hsl,.inl rfl⟩);obtain ⟨q,hq⟩:∃ q,framesB d gen (rs.take k)=q:=⟨_,rfl⟩;rw [hq] at hown hle hle2 HNX;have Hown:=qH (show wr.ownsRow w.heap.size 5 1 _ q.length (byt q) from hown);have Hbw:=qH hbw;have HDW:=qH (HD.out.keeps (X:=nobody) ⟨hbw.os,hbw.tape,hbw.output,hbw.size,fun i hi _=>hbw.block i hi⟩ (fun _ _ h=>h));clear hown hbw hle;go_wp2_with fail;refine (safe_any HDW.out).mono ?_;rintro e w2 ⟨rfl,rfl⟩;rw [safe_eq];have HPS:=qH (show Calls Tryz.prog 135 #[.agg #[.int .i64 2,.int .i64 gen,.int .i64 (safeD d:Nat),.string (str s)]] w2 fun e w'=>e=.returned (.string (str (Part.mk 2 gen (safeD d) s).sealed))∧Below w2.heap.size w2 w' from part_seal _ HOK.out w2);obtain ⟨sl,hsl'⟩:∃ x,(Part.mk 2 gen (safeD d) s).sealed=x:=⟨_,rfl⟩;rw [hsl'] at HPS HNX hle2;generalize safeD d=sf at *;clear HOK HDW;go_wp2_with fail;refine HPS.out.mono ?_;rintro e w3 ⟨rfl,hb3⟩;have Hown3:=qH (own_below Hown.out hb3);have hs3:=hb3.size;have Hbw3:=qH (Hbw.out.trans (hb3.mono hsz));have hss:(str sl).size=sl.length:=str_size sl;clear hb3 HPS Hown
   go_wp2_with (at_builtin;refine Lib.wpList_append_own_string _ rfl (.tmp 18) (.tmp 24) _ _ rfl w.heap.size 5 i0 Tryz.underlying86 Tryz.underlying9 hi hz0 hz1 hz2 _ q.length _ rfl Hown3.out (str sl) rfl (by rw [hss];unfold maxLen;omega) (by rw [hss];omega) (by omega) ?_;intro v5 w5 hown5 hg5 _;have Hown5:=qH hown5;have Hb5:=qH (Hbw3.out.trans ((Keeps.grown (X:=fun i=>w.heap.size≤i) hg5 fun i hi=>.inl (Hown3.out.lt _ hi).1).below (fun i hi e=>by omega) (by omega)));clear hown5 hg5)
   go_roundw
   case rel =>
    refine ⟨k+1,by go_num,by omega,?_,Hb5.out⟩;have h:=Hown5.out;rw [strCells_byt,str_list,←byt_app,hss] at h;rw [HNX.out];unfold OwnB;rw [List.length_append];exact h
   case measure=>simp [intOf];omega
  ·obtain rfl:n=k:=by omega
   have dk:decide ((n:Int)<(n:Int))=false:=by simp
   rw [show rs.take n=rs from by rw [←hl];exact List.take_length] at hown hle;generalize hq9:framesB d gen rs=q at *
   by_cases hq0:0<q.length
   ·obtain ⟨gq,cq,rfl,_,_,hlq⟩:=lies_of_own hown hq0
    have hcv:=hlq.text cq;have Hbw:=qH hbw;clear hown hlq hbw;have HQ:=qH hq9;clear hq9;go_wp2_with fail;go_ret
    exact ⟨by rw [HQ.out];rfl,Hbw.out⟩
   ·have hq:q=[]:=List.eq_nil_of_length_eq_zero (by omega)
    subst hq;have HQ:=qH hq9;have Hbw:=qH hbw;clear hq9 hbw
    rcases hown.2 with ⟨hv,_⟩|⟨gg,cap,cur,he,hb1,hb2,hb3,hb4,hb5,hb6⟩
    ·subst hv
     have hcv:=run_convert_bytes_nil (P:=Tryz.prog) wr 86 5 Tryz.underlying86 Tryz.underlying5 0 0 9 Tryz.underlying9;clear hown;go_wp2_with fail;go_ret
     exact ⟨by rw [HQ.out];rfl,Hbw.out⟩
    ·subst he
     have hcv:(convert 86 9 (.slice (some ⟨gg,0,none⟩) 0 cap)).run Tryz.prog wr=.ok (.string ⟨#[]⟩) wr:=(show Lies wr gg 0 [] from fun j v hv=>by simp [byt] at hv).text cap;clear hown hb2 hb6;go_wp2_with fail;go_ret
     exact ⟨by rw [HQ.out];rfl,Hbw.out⟩
end
end jrn
namespace jrn
open Go Go.RowKit Go.Lib base rowe err rowc wireb jrnp diskp disk framew monoj
def JrnB (w:World) (j gn gs gen:Nat):Prop:=Blk w j 171 #[.pointer (some ⟨gn,0,none⟩),.pointer (some ⟨gs,0,none⟩),.int .i64 gen,.bool false]
section
variable {w w1 w':World} {S:Nat→Prop} {g:Nat} {d:Dk}
theorem at_ok (j gn gs gen:Nat) (w:World) (h:JrnB w j gn gs gen):Calls Tryz.prog 114 #[.pointer (some ⟨j,0,none⟩),.nilIface] w fun e w'=>e=.returned .nilIface∧w'=w:=by
 have c2:w.cell? ⟨j,2,none⟩=_:=h.cell 2;have hlt:=h.lt;simp at c2
 clear h;go_enter Tryz.func114,Tryz.ntmps114;go_wp2_with fail;refine (at_nil _ _ _).mono ?_;rintro e w1 ⟨rfl,rfl⟩;go_wp2_with fail;go_ret
 exact ⟨rfl,rfl⟩
theorem done_ok (j gn gs gen:Nat) (w:World) (h:JrnB w j gn gs gen):Calls Tryz.prog 116 #[.pointer (some ⟨j,0,none⟩),.nilIface] w fun e w'=>e=.returned .nilIface∧w'=w:=by
 have H:=qH h;clear h;go_enter Tryz.func116,Tryz.ntmps116;go_wp2_with fail;refine (at_ok j gn gs gen _ H.out).mono ?_;rintro e w1 ⟨rfl,rfl⟩;go_wp2_with fail;go_ret
 exact ⟨rfl,rfl⟩
theorem long_w (n c:Nat) (A:Option Addr) (rs:List (List UInt8)) (w:World) (hl:rs.length=n) (hn:n≤1000000) (hrs:∀ s ∈ rs,s.length≤4096) (hr:Reads w w.heap.size 1 A n (scells rs)) :
  Calls Tryz.prog 115 #[.slice A n c] w fun e w'=>e=.returned (.bool false)∧w'=w:=by
 have HR:=qH hr;have HRS:=qH hrs;clear hr hrs;go_enter Tryz.func115,Tryz.ntmps115;go_wp2_with fail
 go_loopw [7,4] (fun i _ wr=>∃ k:Nat,i=.int .i64 k∧k≤n∧wr=w) (fun i _ _=>n-(intOf i).toNat)
 case atStart=>exact ⟨0,rfl,by omega,rfl⟩
 case round =>
  obtain ⟨k,rfl,hk,rfl⟩:=hrel
  by_cases hkn:k<n
  ·have dk:decide ((k:Int)<(n:Int))=true:=decide_eq_true (by omega)
   have hkr:k<rs.length:=by omega
   obtain ⟨b,off,rfl,hbb⟩:=HR.out.at_some (by omega);have hc:wr.cell? ⟨b,off+k,none⟩=some (.string (str rs[k])):=HR.out.get (by omega) (by simp only [scells,List.getElem?_map,List.getElem?_eq_getElem hkr,Option.map_some]);have hsl:=HRS.out rs[k] (List.getElem_mem hkr);have hss:=str_size rs[k];have d4:decide ((4096:Int)<((str rs[k]).size:Int))=false:=decide_eq_false (by omega);generalize str rs[k]=s at *;go_wp2_with fail;go_roundw
   case rel=>exact ⟨k+1,by go_num,by omega,trivial⟩
   case measure=>simp [intOf];omega
  ·obtain rfl:n=k:=by omega
   have dk:decide ((n:Int)<(n:Int))=false:=by simp
   go_wp2_with fail;go_ret
   exact ⟨rfl,rfl⟩
def WellR (S:Nat→Prop) (g:Nat) (d:Dk) (w:World) (e:Ending) (w':World):Prop:=e=.returned .nilIface∧∃ S',Grow S S' w∧DiskS w' S' g d∧Keeps S w w'
theorem OpR.well {r:Dk × Int} {e:Ending} (h:OpR S g r w e w') (hr:r.2=0):WellR S g r.1 w e w':=by
 obtain ⟨x,S',rfl,heo,hg,hd,hk,_⟩:=h;refine ⟨?_,S',hg,hd,hk⟩
 rcases heo with ⟨_,rfl⟩|⟨h,_⟩
 ·rfl
 ·exact absurd hr h
theorem put_w (j gn gs gen n c:Nat) (A:Option Addr) (rs:List (List UInt8)) (l:List Part) (h1:1≤gen) (h2:gen≤1099511627776) (hl:rs.length=n) (hn0:0<n) (hn:n≤400) (hrs:∀ s ∈ rs,s.length≤4096)
  (hr:Reads w w.heap.size 1 A n (scells rs)) (hj:JrnB w j gn gs gen) (hd:DiskS w S gn d) (hjS:¬ S j) (hw:Well d l) (hroom:(dev (putL gen l rs)).length≤d.room) :
  Calls Tryz.prog 52 #[.pointer (some ⟨j,0,none⟩),.slice A n c] w (WellR S gn { d with b:=dev (putL gen l rs),safe:=(dev (putL gen l rs)).length } w):=by
 have c0:w.cell? ⟨j,0,none⟩=_:=hj.cell 0;have c2:w.cell? ⟨j,2,none⟩=_:=hj.cell 2;have c3:w.cell? ⟨j,3,none⟩=_:=hj.cell 3;have hlt:=hj.lt;simp at c0 c2 c3
 have hok:=hd.ok_;have hdn:=hw.down;have hpw:=put_well gen rs hw hroom
 have hfl:(framesB d gen rs).length≤1048576:=by
  have h3:putL gen l rs=(l++recsL gen (dev l).length rs)++[Part.mk 4 gen (dev (l++recsL gen (dev l).length rs)).length []]:=rfl;rw [h3,dev_app,List.length_append,dev_app,List.length_append,recs_dev] at hroom;have h4:framesB d gen rs=rs.flatMap fun s=>(Part.mk 2 gen (dev l).length s).sealed:=by unfold framesB;rw [safe_well hdn,hw.safe,hw.b]
  rw [h4];have:=hok.room_;omega
 have hlen:lenD d≤d.b.length:=by unfold lenD;rw [hdn];exact Nat.le_refl _
 have HLEN:=qH (len_any hd);rw [len_eq] at HLEN;have HJ:=qH hj;have HR:=qH hr;have HD:=qH hd;have HRS:=qH hrs;have hsm:∀ i,S i→i<w.heap.size:=by obtain ⟨v,hv⟩:=hd;exact hv.small
 have HSM:=qH hsm;have n1:¬ n=0:=by omega
 have d4:decide ((400:Int)<(n:Int))=false:=decide_eq_false (by omega);have hpj:writeJ d gen (lenD d) (framesB d gen rs)=({ d with b:=dev (putL gen l rs),safe:=(dev (putL gen l rs)).length },0):=hpw;have HP:=qH hpj;clear hj hr hd hrs hsm hw hpw hpj hroom hok hdn;generalize ({ d with b:=dev (putL gen l rs),safe:=(dev (putL gen l rs)).length }:Dk)=d' at *;go_enter Tryz.func52,Tryz.ntmps52;go_wp2_with fail;refine (long_w n c A rs _ hl (by omega) HRS.out HR.out).mono ?_;rintro e w1 ⟨rfl,rfl⟩;go_wp2_with fail;have HFR:=qH (frames_w (w:=w1.drew) j gen n c A rs h1 h2 hl (by omega) HRS.out hfl (HR.out.below (Below.refl _ _).drew) HD.out.drew);obtain ⟨F,hF⟩:∃ F,framesB d gen rs=F:=⟨_,rfl⟩;obtain ⟨ld,hld⟩:∃ x,lenD d=x:=⟨_,rfl⟩;rw [hF] at HFR hfl HP;rw [hld] at HP hlen HLEN;refine wp_region_monoJ (S) [26] (by kernel_rfl) ?_
 iterate 24
  first|refine qJ 0 (v:=?_) ?_ ?_|refine qJ 1 (v:=?_) ?_ ?_|refine qJ 2 (v:=?_) ?_ ?_|refine qJ 3 (v:=?_) ?_ ?_|refine qJ 4 (v:=?_) ?_ ?_|refine qJ 5 (v:=?_) ?_ ?_|refine qJ 6 (v:=?_) ?_ ?_|refine qJ 7 (v:=?_) ?_ ?_|refine qJ 8 (v:=?_) ?_ ?_|refine qJ 9 (v:=?_) ?_ ?_|refine qJ 10 (v:=?_) ?_ ?_|refine qJ 11 (v:=?_) ?_ ?_|refine qJ 12 (v:=?_) ?_ ?_|refine qJ 13 (v:=?_) ?_ ?_|refine qJ 15 (v:=?_) ?_ ?_|refine qJ 16 (v:=?_) ?_ ?_|refine qJ 17 (v:=?_) ?_ ?_|refine qJ 18 (v:=?_) ?_ ?_|refine qJ 19 (v:=?_) ?_ ?_|refine qJ 20 (v:=?_) ?_ ?_|refine qJ 21 (v:=?_) ?_ ?_|refine qJ 22 (v:=?_) ?_ ?_|refine qJ 23 (v:=?_) ?_ ?_|refine qJ 24 (v:=?_) ?_ ?_
  rotate_left
  ·(intro W hSw;(first|(have hxW:=HJ.out.drew.keeps hSw hjS;have y0:W.cell? ⟨j,0,none⟩=some (.pointer (some ⟨gn,0,none⟩)):=hxW.cell 0;have y2:W.cell? ⟨j,2,none⟩=some (.int .i64 gen):=hxW.cell 2;have exl:=hxW.lt)|skip);go_simp <;> rfl)
  try simp only [qPA]
 refine wpMonoJ_one' 14 (by kernel_rfl) rfl (by rfl) (fun K hK=>?_)
 go_simp
 refine (len_any HD.out.drew).mono ?_;rintro e w2 ⟨rfl,rfl⟩;rw [len_eq,hld];refine hK.out _ _ ?_ ?_
 ·exact .refl _ _
 clear hK K
 try simp only [qPA]
 refine wpMonoJ_one' 25 (by kernel_rfl) rfl (by rfl) (fun K hK=>?_)
 go_simp
 refine HFR.out.mono ?_;rintro e w3 ⟨rfl,hb3⟩;have HD3:=qH (HD.out.drew.below hb3);have HJ3:=qH (show JrnB w3 j gn gs gen from HJ.out.drew.below hb3 (by simpa using hlt));have HK3:=qH (Keeps.of_below (X:=nobody) hb3);have HB3:=qH hb3;clear hb3;refine hK.out _ _ ?_ ?_
 ·exact .of_below HB3.out
 clear hK K
 try simp only [qPA]
 refine wpMonoJ_one' 26 (by kernel_rfl) rfl (by rfl) (fun K hK=>?_)
 go_simp
 refine (write_any j gen ld (str F) h1 h2 (by rw [str_size];exact hfl) hlen HD3.out).mono ?_;rintro e w4 h4;rw [str_list,HP.out] at h4;obtain ⟨rfl,S',hg4,hd4,hk4⟩:=OpR.well h4 rfl;have HG4:=qH hg4;have HD4:=qH hd4;have HK4:=qH hk4;have HJ4:=qH (show JrnB w4 j gn gs gen from HJ3.out.keeps hk4 hjS);clear h4 hg4 hd4 hk4;refine hK.out _ _ ?_ ?_
 ·exact moved HK4.out (by decide)
 clear hK K
 try simp only [qPA]
 refine wpMonoJ_one' 27 (by kernel_rfl) rfl (by rfl) (fun K hK=>?_)
 go_simp
 refine (done_ok j gn gs gen _ HJ4.out).mono ?_;rintro e w5 ⟨rfl,rfl⟩;refine hK.out _ _ ?_ ?_
 ·exact .refl _ _
 clear hK K
 try simp only [qPA]
 refine qJ 28 (v:=?_) ?_ ?_;rotate_left
 ·(intro W hSw;(first|(have hxW:=HJ.out.drew.keeps hSw hjS;have y0:W.cell? ⟨j,0,none⟩=some (.pointer (some ⟨gn,0,none⟩)):=hxW.cell 0;have y2:W.cell? ⟨j,2,none⟩=some (.int .i64 gen):=hxW.cell 2;have exl:=hxW.lt)|skip);go_simp <;> rfl)
 try simp only [qPA]
 refine wpMonoJ_done (by kernel_rfl) ?_ _;have hkw:Keeps S w1 w3:=Keeps.drew.trans (HK3.out.more fun _ _ h=>h.elim);have HR4:=qH (show WellR S gn d' w1 (.returned .nilIface) w5 from ⟨rfl,S',⟨HG4.out.1,fun i hi=>(HG4.out.2 i hi).imp id fun h=>Nat.le_trans hkw.size h⟩,HD4.out,hkw.trans HK4.out⟩);clear HG4 HD4 HK4 HJ4 HK3 HD3 HJ3;go_wp2_with fail;go_ret
 exact HR4.out
end
end jrn
end Go.Proofs.YthlahcnglacekaaGreatDoor
