/- A part of the proof of RegionNone: InT, InV, OutV. -/
import Derived.Test.YtdaphppdmnmicaaGreatDoorA05
import Derived.Test.YtdaphppdmnmicaaGreatDoorA01
import Derived.Test.YtdaphppdmnmicaaGreatDoorA14
import Derived.Test.YtdaphppdmnmicaaGreatDoorA02
namespace Go.Proofs.YtdaphppdmnmicaaGreatDoor.wireb
open Go Go.RowKit base rowe err rowc wirep inp
section
variable {w w':World} {g:Nat} {s:ByteArray} {st:Rd}
theorem InB.drewI (h:InB w g s st) (n:Nat):InB (w.drewN n) g s st:=h.below (below_drewN (Below.refl _ _) _)
theorem InB.drew (h:InB w g s st):InB w.drew g s st:=h.below (Below.refl _ _).drew
theorem InB.some_ {l:List UInt8} (h:InB w g s (some l)):∃ n,Blk w g 317 #[.string s,.int .i64 (n:Nat),.nilIface]∧n≤s.size∧s.size≤maxLen∧s.data.toList.drop n=l:=by
 obtain ⟨n,x,hb,h1,h2,h3⟩:=h
 rcases h3 with ⟨l',h,rfl,h4⟩|⟨h,_⟩
 ·injection h with h;exact ⟨n,hb,h1,h2,h4.trans h.symm⟩
 ·cases h
theorem read_in (w:World) (s:ByteArray) (hs:s.size≤maxLen):Calls Tryz.prog 81 #[.string s] w fun e w'=>e=.returned (.pointer (some ⟨w.heap.size,0,none⟩))∧InB w' w.heap.size s (some s.data.toList)∧Below w.heap.size w w':=by
 go_enter Tryz.func81,Tryz.ntmps81
 go_wp2
 go_ret
 exact ⟨rfl,inb_at (n:=0) (Blk.new _ _ _) (by omega) hs,below_new _ _⟩
theorem text_is {s:ByteArray} {a n:Nat} (h:a + n≤s.size):s.extract a (a + n)=⟨((s.data.toList.drop a).take n).toArray⟩:=by
 rw [extract_is s a (a + n) h,List.drop_take,Nat.add_sub_cancel_left]
set_option maxRecDepth 10000 in
set_option maxHeartbeats 800000 in
theorem text_in (most:Nat) (h:InB w g s st):Calls Tryz.prog 87 #[.pointer (some ⟨g,0,none⟩),.int .i64 most] w (GotB g s (textI most st).2 (.string ⟨(textI most st).1.toArray⟩) w):=by
 have H:=Lib.hid h
 cases st with
 | none =>
  clear h
  go_enter Tryz.func87,Tryz.ntmps87
  go_wp2_with fail
  refine (bad_b H.out).mono ?_
  rintro e w1 ⟨rfl,rfl⟩
  go_wp2_with fail
  go_ret
  exact ⟨rfl,H.out,Keeps.refl _ _⟩
 | some l =>
  obtain ⟨n,hb,h1,h2,hl⟩:=h.some_
  have c1:w.cell? ⟨g,1,none⟩=_:=hb.cell 1
  have hlt:=hb.lt
  simp at c1
  have hsz:s.size≤9223372036854775807:=h2
  clear hb h
  generalize hR:textI most (some l)=R
  go_enter Tryz.func87,Tryz.ntmps87
  go_wp2_with fail
  refine (bad_b H.out).mono ?_
  rintro e w1 ⟨rfl,rfl⟩
  go_wp2_with fail
  refine (num_in most H.out).mono ?_
  rintro e w2 ⟨rfl,h3,h4⟩
  have HB:=Lib.hid h4
  have H3:=Lib.hid h3
  clear h4 H c1
  have hlt2:=h3.lt
  unfold textI textR at hR
  unfold numI at h3 H3 ⊢
  dsimp only at h3 H3 hR ⊢
  cases hn:numR most l with
  | none =>
   rw [hn] at H3 hR
   dsimp only at H3 hR ⊢
   have HRN:=Lib.hid hR.symm
   clear hR h3
   go_wp2_with fail
   refine wp_region_mono nobody (by kernel_rfl) ?_
   refine qT 0 (v:=?_) ?_ ?_;rotate_left
   ·(intro W hSw;(have hcW:=hSw.cells;try simp only [qSd] at hcW);go_simp <;> rfl)
   try simp only [qPA]
   refine wpMono_one' 1 (by kernel_rfl) rfl (by rfl) (fun K hK=>?_)
   go_simp
   refine (bad_b H3.out.drew).mono ?_
   rintro e w3 ⟨rfl,rfl⟩
   refine hK.out _ _ ?_ ?_
   ·exact .refl _ _
   clear hK K
   try simp only [qPA]
   refine qT 2 (v:=?_) ?_ ?_;rotate_left
   ·(intro W hSw;(have hcW:=hSw.cells;try simp only [qSd] at hcW);go_simp <;> rfl)
   try simp only [qPA]
   refine wpMono_skip' 3 rfl (by kernel_rfl) (by kernel_rfl) (by kernel_rfl) (fun _ _ _ h=>h) (by rfl) ?_
   try simp only [qPA]
   refine wpMono_skip' 4 rfl (by kernel_rfl) (by kernel_rfl) (by kernel_rfl) (fun _ _ _ h=>h) (by rfl) ?_
   try simp only [qPA]
   refine wpMono_skip' 5 rfl (by kernel_rfl) (by kernel_rfl) (by kernel_rfl) (fun _ _ _ h=>h) (by rfl) ?_
   try simp only [qPA]
   refine wpMono_skip' 6 rfl (by kernel_rfl) (by kernel_rfl) (by kernel_rfl) (fun _ _ _ h=>h) (by rfl) ?_
   try simp only [qPA]
   refine wpMono_skip' 7 rfl (by kernel_rfl) (by kernel_rfl) (by kernel_rfl) (fun _ _ _ h=>h) (by rfl) ?_
   try simp only [qPA]
   refine wpMono_skip' 8 rfl (by kernel_rfl) (by kernel_rfl) (by kernel_rfl) (fun _ _ _ h=>h) (by rfl) ?_
   try simp only [qPA]
   refine wpMono_skip' 9 rfl (by kernel_rfl) (by kernel_rfl) (by kernel_rfl) (fun _ _ _ h=>h) (by rfl) ?_
   try simp only [qPA]
   refine wpMono_skip' 10 rfl (by kernel_rfl) (by kernel_rfl) (by kernel_rfl) (fun _ _ _ h=>h) (by rfl) ?_
   try simp only [qPA]
   refine wpMono_skip' 11 rfl (by kernel_rfl) (by kernel_rfl) (by kernel_rfl) (fun _ _ _ h=>h) (by rfl) ?_
   try simp only [qPA]
   refine wpMono_skip' 12 rfl (by kernel_rfl) (by kernel_rfl) (by kernel_rfl) (fun _ _ _ h=>h) (by rfl) ?_
   try simp only [qPA]
   refine wpMono_skip' 13 rfl (by kernel_rfl) (by kernel_rfl) (by kernel_rfl) (fun _ _ _ h=>h) (by rfl) ?_
   try simp only [qPA]
   refine wpMono_skip' 14 rfl (by kernel_rfl) (by kernel_rfl) (by kernel_rfl) (fun _ _ _ h=>h) (by rfl) ?_
   try simp only [qPA]
   refine qT 15 (v:=?_) ?_ ?_;rotate_left
   ·(intro W hSw;(have hcW:=hSw.cells;try simp only [qSd] at hcW);go_simp <;> rfl)
   try simp only [qPA]
   refine wpMono_done (by kernel_rfl) ?_ _
   go_wp2_with fail
   refine (wrong_bad _ H3.out.drew).mono ?_
   rintro e w3 ⟨rfl,rfl⟩
   go_wp2_with fail
   go_ret
   rw [HRN.out]
   exact ⟨rfl,H3.out.drew,HB.out.trans Keeps.drew⟩
  | some q =>
   obtain ⟨k,r⟩:=q
   rw [hn] at h3 H3 hR
   dsimp only at h3 H3 hR ⊢
   obtain ⟨p,hb,hp,_,hr⟩:=h3.some_
   have c1':w2.cell? ⟨g,1,none⟩=_:=hb.cell 1
   have c0':w2.cell? ⟨g,0,none⟩=_:=hb.cell 0
   have f1:=hb.frozen 1
   simp at c1' c0'
   have hrl:r.length=s.size - p:=by rw [← hr,List.length_drop];rfl
   have Hb:=Lib.hid hb
   have hwr:=IntWalk.i64_in ((s.size:Int) - (p:Int)) (by omega)
   clear h3
   by_cases hk:k≤r.length
   ·rw [if_pos hk] at hR
    have HRN:=Lib.hid hR.symm
    have dk:decide (((s.size:Int) - (p:Int)) < (k:Int))=false:=decide_eq_false (by omega)
    have hpk:p + k≤s.size:=by omega
    have f1':∀ n,(w2.drewN n).frozen? ⟨g,1,none⟩=false:=fun _=>f1
    clear hR
    go_wp2_with fail
    refine wp_region_mono nobody (by kernel_rfl) ?_
    refine qT 0 (v:=?_) ?_ ?_;rotate_left
    ·(intro W hSw;(have hcW:=hSw.cells;try simp only [qSd] at hcW);go_simp <;> rfl)
    try simp only [qPA]
    (try rw [hwr])
    refine wpMono_one' 1 (by kernel_rfl) rfl (by rfl) (fun K hK=>?_)
    go_simp
    refine (bad_b H3.out.drew).mono ?_
    rintro e w3 ⟨rfl,rfl⟩
    refine hK.out _ _ ?_ ?_
    ·exact .refl _ _
    clear hK K
    try simp only [qPA]
    (try rw [hwr])
    iterate 14
     first|refine qT 2 (v:=?_) ?_ ?_|refine qT 3 (v:=?_) ?_ ?_|refine qT 4 (v:=?_) ?_ ?_|refine qT 5 (v:=?_) ?_ ?_|refine qT 6 (v:=?_) ?_ ?_|refine qT 7 (v:=?_) ?_ ?_|refine qT 8 (v:=?_) ?_ ?_|refine qT 9 (v:=?_) ?_ ?_|refine qT 10 (v:=?_) ?_ ?_|refine qT 11 (v:=?_) ?_ ?_|refine qT 12 (v:=?_) ?_ ?_|refine qT 13 (v:=?_) ?_ ?_|refine qT 14 (v:=?_) ?_ ?_|refine qT 15 (v:=?_) ?_ ?_
     rotate_left
     ·(intro W hSw;(have hcW:=hSw.cells;try simp only [qSd] at hcW);go_simp <;> rfl)
     try simp only [qPA]
     (try rw [hwr])
    refine wpMono_done (by kernel_rfl) ?_ _
    have c1'':w2.drew.cell? ⟨g,1,none⟩=some (.int .i64 (p:Nat)):=c1'
    have f1'':w2.drew.frozen? ⟨g,1,none⟩=false:=f1
    go_wp2_with fail
    have hb2:=at_put Hb.out (p + k) ((p:Int) + k) (by omega)
    have c2:(w2.setCell ⟨g,1,none⟩ (.int .i64 ((p:Int) + k))).cell? ⟨g,1,none⟩=_:=hb2.cell 1
    have c2':(w2.setCell ⟨g,1,none⟩ (.int .i64 ((p:Int) + k))).cell? ⟨g,0,none⟩=_:=hb2.cell 0
    simp at c2 c2'
    have HI:=Lib.hid (inb_at hb2 hpk h2)
    have HK:=Lib.hid (HB.out.trans (Keeps.set1 w2 g 1 (.int .i64 ((p:Int) + k))))
    clear hb2 hb
    go_quiet (fail)
    rename_i nq
    go_wp2_with fail
    go_ret
    rw [HRN.out]
    refine ⟨by rw [text_is hpk,hr];rfl,?_,HK.out.trans (Keeps.drew.trans (Keeps.drewN _))⟩
    have:=HI.out.drew.drewI nq
    rw [show s.data.toList.drop (p + k)=r.drop k by rw [← hr,List.drop_drop]] at this
    exact this
   ·rw [if_neg hk] at hR
    have HRN:=Lib.hid hR.symm
    have dk:decide (((s.size:Int) - (p:Int)) < (k:Int))=true:=decide_eq_true (by omega)
    clear hR hb
    go_wp2_with fail
    refine wp_region_mono nobody (by kernel_rfl) ?_
    refine qT 0 (v:=?_) ?_ ?_;rotate_left
    ·(intro W hSw;(have hcW:=hSw.cells;try simp only [qSd] at hcW);go_simp <;> rfl)
    try simp only [qPA]
    (try rw [hwr])
    refine wpMono_one' 1 (by kernel_rfl) rfl (by rfl) (fun K hK=>?_)
    go_simp
    refine (bad_b H3.out.drew).mono ?_
    rintro e w3 ⟨rfl,rfl⟩
    refine hK.out _ _ ?_ ?_
    ·exact .refl _ _
    clear hK K
    try simp only [qPA]
    (try rw [hwr])
    iterate 14
     first|refine qT 2 (v:=?_) ?_ ?_|refine qT 3 (v:=?_) ?_ ?_|refine qT 4 (v:=?_) ?_ ?_|refine qT 5 (v:=?_) ?_ ?_|refine qT 6 (v:=?_) ?_ ?_|refine qT 7 (v:=?_) ?_ ?_|refine qT 8 (v:=?_) ?_ ?_|refine qT 9 (v:=?_) ?_ ?_|refine qT 10 (v:=?_) ?_ ?_|refine qT 11 (v:=?_) ?_ ?_|refine qT 12 (v:=?_) ?_ ?_|refine qT 13 (v:=?_) ?_ ?_|refine qT 14 (v:=?_) ?_ ?_|refine qT 15 (v:=?_) ?_ ?_
     rotate_left
     ·(intro W hSw;(have hcW:=hSw.cells;try simp only [qSd] at hcW);go_simp <;> rfl)
     try simp only [qPA]
     (try rw [hwr])
    refine wpMono_done (by kernel_rfl) ?_ _
    go_wp2_with fail
    refine (wrong_b _ H3.out.drew).mono ?_
    rintro e w3 ⟨rfl,h5,h6⟩
    have HR:=Lib.hid (show GotB g s none (.string ⟨#[]⟩) w1 (.returned (.string ⟨#[]⟩)) w3 from ⟨rfl,h5,(HB.out.trans Keeps.drew).trans h6⟩)
    clear h5 h6
    go_wp2_with fail
    go_ret
    rw [HRN.out]
    exact HR.out
theorem flag_in (h:InB w g s st):Calls Tryz.prog 168 #[.pointer (some ⟨g,0,none⟩)] w (GotB g s (numI 1 st).2 (.bool (decide ((numI 1 st).1=1))) w):=by
 have H:=Lib.hid h
 clear h
 have hd:∀ n:Nat,((((n:Nat):Int) == 1):Bool)=decide (n=1):=fun n=>by
  rw [Bool.eq_iff_iff]
  simp
  omega
 go_enter Tryz.func168,Tryz.ntmps168
 go_wp2_with fail
 refine (num_in 1 H.out).mono ?_
 rintro e w2 ⟨rfl,h3,h4⟩
 have HR:=Lib.hid (show GotB g s (numI 1 st).2 (.bool (decide ((numI 1 st).1=1))) w _ w2 from ⟨rfl,h3,h4⟩)
 clear h3 h4
 generalize (numI 1 st).1=n at *
 go_wp2_with fail
 go_ret
 exact HR.out
def endC (st:Rd):Int:=match st with|some []=>0|_=>2
def EndR (st:Rd) (w:World) (e:Ending) (w':World):Prop:=∃ x,e=.returned x∧EO w' x (endC st)∧Below w.heap.size w w'
theorem end_in (h:InB w g s st):Calls Tryz.prog 84 #[.pointer (some ⟨g,0,none⟩)] w (EndR st w):=by
 cases st with
 | none =>
  obtain ⟨n,x,hb,h1,h2,h3⟩:=h
  have c2:w.cell? ⟨g,2,none⟩=_:=hb.cell 2
  have hlt:=hb.lt
  simp at c2
  clear hb
  rcases h3 with ⟨l,h,_⟩|⟨_,k,hk,herr⟩
  ·cases h
  ·have HE:=Lib.hid (show EO w x 2 from .inr ⟨by decide,herr.err,by obtain ⟨rfl,_⟩:=herr;simp⟩)
   obtain ⟨rfl,herr⟩:=herr
   clear herr hk
   go_enter Tryz.func84,Tryz.ntmps84
   go_wp2_with fail
   go_quiet (fail)
   go_wp2_with fail
   go_ret
   exact ⟨_,rfl,HE.out.below (below_drewN (Below.refl _ _) _),below_drewN (Below.refl _ _) _⟩
 | some l =>
  obtain ⟨n,hb,h1,h2,hl⟩:=h.some_
  have c0:w.cell? ⟨g,0,none⟩=_:=hb.cell 0
  have c1:w.cell? ⟨g,1,none⟩=_:=hb.cell 1
  have c2:w.cell? ⟨g,2,none⟩=_:=hb.cell 2
  have hlt:=hb.lt
  simp at c0 c1 c2
  have hll:l.length=s.size - n:=by rw [← hl,List.length_drop];rfl
  clear hb h hl
  cases l with
  | nil =>
   simp at hll
   have dn:decide (n < s.size)=false:=decide_eq_false (by omega)
   clear hll
   go_enter Tryz.func84,Tryz.ntmps84
   go_wp2_with fail
   go_quiet (fail)
   go_wp2_with fail
   go_ret
   exact ⟨_,rfl,EO.nil _,below_drewN (Below.refl _ _) _⟩
  | cons a l =>
   simp at hll
   have dn:decide (n < s.size)=true:=decide_eq_true (by omega)
   have hns:n < s.size:=by omega
   clear hll
   go_enter Tryz.func84,Tryz.ntmps84
   go_wp2_with fail
   go_quiet (fail)
   rename_i nq
   go_wp2_with fail
   refine (at_any _ _ 2 _).mono ?_
   rintro e w1 ⟨x,rfl,he,hnn,hb1,hge⟩
   have HR:=Lib.hid (show EndR (some (a :: l)) w (.returned x) w1 from ⟨x,rfl,.inr ⟨(fun h=>by cases h),he,hnn⟩,(below_drewN (Below.refl _ w) nq).trans hb1⟩)
   obtain ⟨k,rfl⟩:=he.form
   clear he hnn hb1 hge
   go_wp2_with fail
   go_ret
   exact HR.out
end
end Go.Proofs.YtdaphppdmnmicaaGreatDoor.wireb
namespace Go.Proofs.YtdaphppdmnmicaaGreatDoor.wireb
open Go Go.RowKit base rowe err rowc wirep inp writep
theorem int_info:(Tryz.prog.info? 3).map (fun i=>(i.zero,i.size,i.bytes))=some (some (.int .i64 0),1,8):=by kernel_rfl
def natI (v:List Nat):List Int:=v.map fun n:Nat=>(n:Int)
def encN (v:List Nat):List Value:=(natI v).map (Value.int .i64)
theorem natI_len (v:List Nat):(natI v).length=v.length:=by simp [natI]
theorem tr_nat (v:List Nat) (most:Nat):wire.trB (natI v) most=trN v most:=by
 have hg:∀ k,(natI v).getD k 0=((v.getD k 0:Nat):Int):=by
  intro k
  simp only [natI,List.getD_eq_getElem?_getD,List.getElem?_map]
  cases v[k]? <;> rfl
 unfold wire.trB trN
 rw [natI_len,hg]
 congr 1
 congr 1
 ·simp
 ·have e:(fun n:Nat=>wire.okN most (n:Int))=fun n:Nat=>decide (n≤most):=by
   funext n
   unfold wire.okN
   rw [decide_eq_true (show (0:Int)≤(n:Int) by omega),Bool.true_and]
   exact decide_eq_decide.2 (by omega)
  unfold natI
  rw [List.all_map,← e]
  rfl
def OwnN (w:World) (base:Nat) (v:Value) (l:List Nat):Prop:=w.ownsRow base 3 1 v l.length (encN l)
theorem OwnN.form {w:World} {base:Nat} {v:Value} {l:List Nat} (h:OwnN w base v l):∃ A c,v=.slice A l.length c:=ownsRow_slice h
theorem OwnN.none (w:World) (base:Nat):OwnN w base (.slice none 0 0) []:=⟨rfl,.inl ⟨rfl,rfl⟩⟩
theorem OwnN.keeps {X:Nat→Prop} {w w':World} {base:Nat} {v:Value} {l:List Nat} (h:OwnN w base v l) (hk:Keeps X w w') (hx:∀ g,base≤g→¬ X g):OwnN w' base v l:=own_keeps h hk hx
theorem OwnN.push {w:World} {base:Nat} {v:Value} {l:List Nat} {x:Int} {n:Nat} (h:w.ownsRow base 3 1 v (l.length + 1) (encN l ++ [.int .i64 x])) (hx:x=(n:Int)):OwnN w base v (l ++ [n]):=by
 subst hx
 unfold OwnN
 rw [List.length_append]
 have:encN (l ++ [n])=encN l ++ [.int .i64 (n:Int)]:=by simp [encN,natI]
 rw [this]
 exact h
def VecR (g:Nat) (s:ByteArray) (st:Rd) (v:List Nat) (w:World) (e:Ending) (w':World):Prop :=
 ∃ x,e=.returned x∧OwnN w' w.heap.size x v∧InB w' g s st∧Keeps (· = g) w w'
theorem numR_le {most:Nat} {l r:List UInt8} {n:Nat} (h:numR most l=some (n,r)):n≤most:=by
 obtain ⟨_,_,h2,_⟩:=readN_some 9 0 0 l n r h
 exact h2
theorem nums_push {k:Nat} {l r:List UInt8} {n:Nat} {d:List Nat} {R:Option (List Nat × List UInt8)} (h:numR maxNum l=some (n,r)) (e:R=(match numsR (k + 1) l with|none=>none|some (v,r2)=>some (d ++ v,r2))) :
  R=(match numsR k r with|none=>none|some (v,r2)=>some ((d ++ [n]) ++ v,r2)):=by
 rw [e,numsR,h]
 dsimp only
 cases numsR k r with
 | none=>rfl
 | some q=>simp
theorem nums_bad {k:Nat} {l:List UInt8} {d:List Nat} {R:Option (List Nat × List UInt8)} (h:numR maxNum l=none) (e:R=(match numsR (k + 1) l with|none=>none|some (v,r2)=>some (d ++ v,r2))):R=none:=by
 rw [e,numsR,h]
section
variable {w w':World} {g:Nat} {s:ByteArray} {st:Rd}
def VecL (g:Nat) (s:ByteArray) (R:Option (List Nat × List UInt8)) (B:Nat) (w0:World) (v i:Value) (w:World):Prop :=
 ∃ (d:List Nat) (m:Nat),i=.int .i64 m∧m + d.length≤16∧OwnN w B v d∧Keeps (· = g) w0 w∧B≤w.heap.size ∧
  ((∃ l,InB w g s (some l)∧R=(match numsR m l with|none=>none|some (v,r2)=>some (d ++ v,r2))) ∨ (InB w g s none∧R=none))
theorem _root_.Go.Proofs.YtdaphppdmnmicaaGreatDoor.base.Keeps.new_ {X:Nat→Prop} {w0 w1 w2:World} (h:Keeps X w0 w1) (h2:Keeps (fun i=>w0.heap.size≤i) w1 w2):Keeps X w0 w2 :=
 ⟨h2.os.trans h.os,h2.tape.trans h.tape,h2.output.trans h.output,Nat.le_trans h.size h2.size,fun i hi hx=>(h2.block i (Nat.lt_of_lt_of_le hi h.size) (by omega)).trans (h.block i hi hx)⟩
theorem vecL_next {r0:Option (List Nat × List UInt8)} {w0 w4 w5:World} {u v1:Value} {d:List Nat} {l':List UInt8} {m:Nat} {i:Int} (hm:m + 1 + d.length≤16) (hg:g < w0.heap.size) (hIn:InB w4 g s (numI 1099511627776 (some l')).2)
  (hu:w4.ownsRow w0.heap.size 3 1 u d.length (encN d)) (hown:w5.ownsRow w0.heap.size 3 1 v1 (d.length + 1) (encN d ++ [.int .i64 (numI 1099511627776 (some l')).1])) (hk0:Keeps (· = g) w0 w4) (hk5:Keeps (fun i=>u.ownBlock=some i) w4 w5)
  (hre:r0=(match numsR (m + 1) l' with|none=>none|some (v,r2)=>some (d ++ v,r2))) (hi:i=m):VecL g s r0 w0.heap.size w0 v1 (.int .i64 i) w5:=by
 subst hi
 have hin5:=hIn.keepsE hk5 (fun e=>by have:=(hu.lt g e).1;omega) (fun k cs _ hb=>own_blk_ne hu hb (by decide))
 have hkk:Keeps (· = g) w0 w5:=hk0.new_ (hk5.more fun i _ hi=>(hu.lt i hi).1)
 refine ⟨d ++ [(numI 1099511627776 (some l')).1],m,rfl,by rw [List.length_append,List.length_singleton];omega,OwnN.push hown rfl,hkk,hkk.size,?_⟩
 unfold numI at hin5 ⊢
 dsimp only at hin5 ⊢
 cases hn:numR 1099511627776 l' with
 | none =>
  rw [hn] at hin5
  exact .inr ⟨hin5,nums_bad hn hre⟩
 | some q =>
  obtain ⟨n,r⟩:=q
  rw [hn] at hin5
  exact .inl ⟨r,hin5,nums_push hn hre⟩
set_option maxRecDepth 10000 in
set_option maxHeartbeats 1600000 in
theorem vec_in (h:InB w g s st):Calls Tryz.prog 83 #[.pointer (some ⟨g,0,none⟩)] w (VecR g s (vecI st).2 (vecI st).1 w):=by
 obtain ⟨i0,hi,hz⟩:=Option.map_eq_some_iff.1 int_info
 simp only [Prod.mk.injEq] at hz
 obtain ⟨hz0,hz1,hz2⟩:=hz
 have H:=Lib.hid h
 cases st with
 | none =>
  clear h
  go_enter Tryz.func83,Tryz.ntmps83
  go_wp2_with fail
  refine (bad_b H.out).mono ?_
  rintro e w1 ⟨rfl,rfl⟩
  go_wp2_with fail
  go_ret
  exact ⟨_,rfl,OwnN.none _ _,H.out,Keeps.refl _ _⟩
 | some l =>
  obtain ⟨n,hb,h1,h2,hl⟩:=h.some_
  have c1:w.cell? ⟨g,1,none⟩=_:=hb.cell 1
  have hlt:=hb.lt
  simp at c1
  clear hb h hl
  generalize hR:vecI (some l)=R
  go_enter Tryz.func83,Tryz.ntmps83
  go_wp2_with fail
  refine (bad_b H.out).mono ?_
  rintro e w1 ⟨rfl,rfl⟩
  go_wp2_with fail
  refine (num_in 16 H.out).mono ?_
  rintro e w2 ⟨rfl,h3,h4⟩
  obtain ⟨k,hk⟩:∃ k,numI 16 (some l)=k:=⟨_,rfl⟩
  rw [hk] at h3 ⊢
  have HV:=Lib.hid (show ∃ r0,VecL g s r0 w1.heap.size w1 (.slice none 0 0) (.int .i64 k.1) w2∧R=(match r0 with|none=>([],none)|some (v,r2)=>if trN v maxNum then (v,some r2) else ([],none)) from by
   have hsz:=h4.size
   unfold numI at hk
   dsimp only at hk
   unfold vecI vecR at hR
   dsimp only at hR
   cases hn:numR 16 l with
   | none =>
    rw [hn] at hk hR
    subst hk
    exact ⟨none,⟨[],0,rfl,by simp,OwnN.none _ _,h4,hsz,.inr ⟨h3,rfl⟩⟩,hR.symm⟩
   | some q =>
    obtain ⟨a,r⟩:=q
    rw [hn] at hk hR
    subst hk
    have ha:=numR_le hn
    refine ⟨numsR a r,⟨[],a,rfl,by simpa using ha,OwnN.none _ _,h4,hsz,.inl ⟨r,h3,?_⟩⟩,?_⟩
    ·cases numsR a r with
     | none=>rfl
     | some q=>rfl
    ·rw [← hR]
     dsimp only
     cases numsR a r with
     | none=>rfl
     | some q =>
      dsimp only
      cases htr:trN q.fst maxNum <;> rfl)
  clear h3 h4 hk hR H c1
  obtain ⟨r0,hv0,hr0⟩:=HV.out
  have HV0:=Lib.hid hv0
  have HR0:=Lib.hid hr0
  clear HV hv0 hr0
  generalize k.1=k0 at *
  go_wp2_with fail
  go_loopw [4,5] (fun v i wr'=>VecL g s r0 w1.heap.size w1 v i wr') (fun _ i _=>(intOf i).toNat)
  case atStart=>exact HV0.out
  case round =>
   clear HV0
   obtain ⟨d,m,rfl,hm,hown,hbw,hsz,hcase⟩:=hrel
   rcases hcase with ⟨l',hin,hre⟩|⟨hin,hre⟩
   ·by_cases hm0:0 < m
    ·have d1:decide ((0:Int) < (m:Int))=true:=decide_eq_true (by omega)
     have Hown:=Lib.hid hown
     have Hbw:=Lib.hid hbw
     have Hin:=Lib.hid hin
     have Hre:=Lib.hid hre
     clear hown hbw hin hre
     go_wp2_with fail
     refine (bad_b Hin.out).mono ?_
     rintro e w3 ⟨rfl,rfl⟩
     go_wp2_with fail
     refine (num_in 1099511627776 Hin.out).mono ?_
     rintro e w4 ⟨rfl,h3,h4⟩
     have Hown2:=Lib.hid (show w4.ownsRow w1.heap.size 3 1 _ d.length (encN d) from Hown.out.keeps h4 (fun i hi e=>by omega))
     have hsz4:=Nat.le_trans hsz h4.size
     have HB4:=Lib.hid (Hbw.out.trans h4)
     have H3:=Lib.hid h3
     clear h3 h4 Hbw Hown
     go_wp2_with (at_builtin;refine wpList_append_newAt rfl (.tmp 23) (.tmp 26) _ rfl w1.heap.size 3 i0 _ 1 8 Tryz.underlying27 hi hz0 hz1 hz2 rfl (by decide) _ d.length _ rfl Hown2.out 1 1 w4.heap.size (by simp) [_] rfl rfl (by simp [Value.oneCell']) (by unfold maxLen;omega) (by omega) hsz4 ?_;intro v1 w5 hown1 hbw1 hgr1 hwh1;have Hown1:=Lib.hid hown1;have Hbw1:=Lib.hid hbw1;have Hg1:=Lib.hid hgr1;have Hwh1:=Lib.hid hwh1;clear hown1 hbw1 hgr1 hwh1)
     go_roundw
     case rel =>
      have hk5:Keeps (fun i=>u4.ownBlock=some i) w4 w5:=.grown Hg1.out fun i hi=>.inl hi
      obtain ⟨m,rfl⟩:∃ j,m=j + 1:=⟨m - 1,by omega⟩
      exact vecL_next hm hlt H3.out Hown2.out Hown1.out HB4.out hk5 Hre.out (by omega)
     case measure=>simp [intOf];omega
    ·obtain rfl:m=0:=by omega
     have d1:decide ((0:Int) < ((0:Nat):Int))=false:=by decide
     obtain ⟨A1,cc1,rfl⟩:=hown.form
     have HR1:=Lib.hid (show R=if trN d maxNum then (d,some l') else ([],none) from by
      have h:=HR0.out
      rw [hre] at h
      simpa [numsR] using h)
     obtain ⟨n2,hb,hn2,_,hdr⟩:=hin.some_
     have f2:=hb.frozen 2
     have c2:wr.cell? ⟨g,2,none⟩=_:=hb.cell 2
     have hltr:=hb.lt
     simp at c2
     have Hb:=Lib.hid hb
     have hr:=Reads.of_own hown
     have Hown:=Lib.hid hown
     have Hbw:=Lib.hid hbw
     have Hin:=Lib.hid hin
     have Hre:=Lib.hid hre
     have Hr:=Lib.hid hr
     clear hown hbw hin hre hr
     clear hb hm0 HR0
     go_wp2_with fail
     refine (bad_b Hin.out).mono ?_
     rintro e w3 ⟨rfl,rfl⟩
     go_wp2_with fail
     refine (wire.trim_any A1 d.length cc1 (natI d) 1099511627776 _ _ (natI_len d) (by unfold maxLen;omega) Hr.out).mono ?_
     rintro e w4 ⟨rfl,rfl⟩
     rw [show wire.trB (natI d) 1099511627776=trN d 1099511627776 from tr_nat d 1099511627776]
     cases htr:trN d 1099511627776 with
     | true =>
      go_wp2_with fail
      go_ret
      rw [HR1.out,if_pos (show trN d maxNum=true from htr)]
      exact ⟨_,rfl,Hown.out,Hin.out,Hbw.out⟩
     | false =>
      go_wp2_with fail
      refine (wrong_b _ (inb_at (Hb.out.set_ 2 .nilIface) hn2 h2)).mono ?_
      rintro e w5 ⟨rfl,h5,h6⟩
      have HQ:=Lib.hid (show VecR g s R.2 R.1 w1 (.returned (.slice none 0 0)) w5 from by
       rw [HR1.out,if_neg (by rw [show maxNum=1099511627776 from rfl,htr];decide)]
       exact ⟨_,rfl,OwnN.none _ _,h5,Hbw.out.trans ((Keeps.set1 w4 g 2 _).trans h6)⟩)
      clear h5 h6
      go_wp2_with fail
      go_ret
      exact HQ.out
   ·have HR1:=Lib.hid (show R=([],none) from by have h:=HR0.out;rw [hre] at h;exact h)
    obtain ⟨n2,x2,hb,hn2,_,_⟩:=id hin
    have f2:=hb.frozen 2
    have c2:wr.cell? ⟨g,2,none⟩=_:=hb.cell 2
    have hltr:=hb.lt
    simp at c2
    have Hb:=Lib.hid hb
    have Hown:=Lib.hid hown
    have Hbw:=Lib.hid hbw
    have Hin:=Lib.hid hin
    have Hre:=Lib.hid hre
    clear hown hbw hin hre
    clear hb HR0
    by_cases hm0:0 < m
    ·have d1:decide ((0:Int) < (m:Int))=true:=decide_eq_true (by omega)
     go_wp2_with fail
     refine (bad_b Hin.out).mono ?_
     rintro e w3 ⟨rfl,rfl⟩
     go_wp2_with fail
     refine (bad_b Hin.out).mono ?_
     rintro e w3 ⟨rfl,rfl⟩
     go_wp2_with fail
     refine (wrong_b _ (inb_at (Hb.out.set_ 2 .nilIface) hn2 h2)).mono ?_
     rintro e w5 ⟨rfl,h5,h6⟩
     have HQ:=Lib.hid (show VecR g s R.2 R.1 w1 (.returned (.slice none 0 0)) w5 from by
      rw [HR1.out]
      exact ⟨_,rfl,OwnN.none _ _,h5,Hbw.out.trans ((Keeps.set1 w3 g 2 _).trans h6)⟩)
     clear h5 h6
     go_wp2_with fail
     go_ret
     exact HQ.out
    ·obtain rfl:m=0:=by omega
     go_wp2_with fail
     refine (bad_b Hin.out).mono ?_
     rintro e w3 ⟨rfl,rfl⟩
     go_wp2_with fail
     refine (wrong_b _ (inb_at (Hb.out.set_ 2 .nilIface) hn2 h2)).mono ?_
     rintro e w5 ⟨rfl,h5,h6⟩
     have HQ:=Lib.hid (show VecR g s R.2 R.1 w1 (.returned (.slice none 0 0)) w5 from by
      rw [HR1.out]
      exact ⟨_,rfl,OwnN.none _ _,h5,Hbw.out.trans ((Keeps.set1 w3 g 2 _).trans h6)⟩)
     clear h5 h6
     go_wp2_with fail
     go_ret
     exact HQ.out
end
end Go.Proofs.YtdaphppdmnmicaaGreatDoor.wireb
namespace Go.Proofs.YtdaphppdmnmicaaGreatDoor.wireb
open Go Go.RowKit base rowe err rowc wirep writep
theorem nums_next {v:List Nat} {k:Nat} (h:k < v.length):numsW (v.take (k + 1))=numsW (v.take k) ++ numW (v.getD k 0):=by
 have e:v.take (k + 1)=v.take k ++ [v[k]]:=List.take_succ_eq_append_getElem h
 unfold numsW
 rw [e,List.flatMap_append,List.getD_eq_getElem?_getD,List.getElem?_eq_getElem h,List.flatMap_cons,List.flatMap_nil,List.append_nil]
 rfl
theorem natI_getD (v:List Nat) (k:Nat):(natI v).getD k 0=((v.getD k 0:Nat):Int):=by
 simp only [natI,List.getD_eq_getElem?_getD,List.getElem?_map]
 cases v[k]? <;> rfl
theorem getD_le {v:List Nat} {most k:Nat} (h:trN v most=true) (hk:k < v.length):v.getD k 0≤most:=by
 have:=(trN_all h).2 v[k] (List.getElem_mem hk)
 rw [List.getD_eq_getElem?_getD,List.getElem?_eq_getElem hk]
 exact this
theorem trN_more {v:List Nat} {a b:Nat} (h:trN v a=true) (hab:a≤b):trN v b=true:=by
 rw [← tr_nat] at h ⊢
 exact wire.tr_more h (by omega)
theorem numsW_le {v:List Nat} {k:Nat} (h:trN v maxNum=true):(numsW (v.take k)).length≤9 * k:=by
 have h1:=numsW_len (v.take k) (fun n hn=>(trN_all h).2 n (List.mem_of_mem_take hn))
 have h2:(v.take k).length≤k:=by rw [List.length_take];omega
 omega
set_option maxRecDepth 10000 in
theorem vec_b (g:Nat) (l:List UInt8) (d:Value) (v:List Nat) (w:World) (h:OutB w g l) (hd:wire.Nums w g d (natI v)) (ht:trN v maxNum=true) (hr:l.length + 200≤65536) :
  Calls Tryz.prog 138 #[.pointer (some ⟨g,0,none⟩),d] w (PutB g (l ++ vecW v) w):=by
 obtain ⟨A,m,c,rfl,hl,hm,hrd⟩:=hd
 rw [natI_len] at hl
 subst hl
 have h16:=(trN_all ht).1
 have ht2:wire.trB (natI v) 4611686018427387903=true:=by rw [show wire.trB (natI v) 4611686018427387903=trN v 4611686018427387903 from tr_nat v 4611686018427387903];exact trN_more ht (by decide)
 obtain ⟨x,_,hb,hx⟩:=id h
 have c1:w.cell? ⟨g,1,none⟩=_:=hb.cell 1
 have hlt:=hb.lt
 simp at c1
 have Ht2:=Lib.hid ht2
 have Ht:=Lib.hid ht
 have Hrd:=Lib.hid hrd
 have H:=Lib.hid h
 clear h
 clear hb hx ht ht2 hrd
 have hnl:=numW_len 0 v.length (by omega)
 go_enter Tryz.func138,Tryz.ntmps138
 go_wp2_with fail
 refine (wire.trim_any A v.length c (natI v) 4611686018427387903 g _ (natI_len v) hm Hrd.out).mono ?_
 rintro e w1 ⟨rfl,rfl⟩
 rw [Ht2.out]
 go_wp2_with fail
 refine (number_b (.slice none 0 0) [] v.length w1.heap.size _ (OwnB.none _ _) (by omega) (by simp) (Nat.le_refl _)).mono ?_
 rintro e w2 ⟨v1,rfl,h3,h4⟩
 rw [List.nil_append] at h3
 have H3:=Lib.hid h3
 have H4:=Lib.hid h4
 clear h3 h4
 go_wp2_with fail
 go_loopw [4,6,26] (fun b _ i wr'=>∃ k:Nat,i=.int .i64 k∧k≤v.length∧OwnB wr' w1.heap.size b (numW v.length ++ numsW (v.take k))∧Below w1.heap.size w1 wr') (fun _ _ i _=>v.length - (intOf i).toNat)
 case atStart=>exact ⟨0,rfl,by omega,by simpa [numsW] using H3.out,H4.out⟩
 case round =>
  clear H3 H4
  obtain ⟨k,rfl,hk,h3,h4⟩:=hrel
  have hsz:=h4.size
  have hle:=numsW_le (k:=k) Ht.out
  have hll:(numW v.length ++ numsW (v.take k)).length≤200:=by rw [List.length_append];omega
  by_cases hlk:k < v.length
  ·have d1:decide ((k:Int) < (v.length:Int))=true:=by simp;omega
   obtain ⟨b,off,rfl,hbb⟩:=Hrd.out.at_some (by omega)
   have hcur:=(Hrd.out.below (h4.mono (by omega))).int (k:=k) hlk
   rw [natI_getD] at hcur
   have hok:=getD_le Ht.out hlk
   have HN:=Lib.hid (nums_next hlk)
   generalize v.getD k 0=y at *
   have hy2:y < 9223372036854775808:=by unfold maxNum at hok;omega
   clear hok
   have H3:=Lib.hid h3
   have H4:=Lib.hid h4
   have Hy2:=Lib.hid hy2
   clear h3 h4 hy2
   go_wp2_with fail
   refine (number_b _ _ y w1.heap.size _ H3.out Hy2.out (by omega) hsz).mono ?_
   rintro e w3 ⟨v3,rfl,h7,h8⟩
   have H7:=Lib.hid (show OwnB w3 w1.heap.size v3 (numW v.length ++ numsW (v.take (k + 1))) from by rw [HN.out,← List.append_assoc];exact h7)
   have H8:=Lib.hid (H4.out.trans h8)
   clear h7 h8 H3 H4
   go_wp2_with fail
   go_roundw
   case rel=>exact ⟨k + 1,by go_num,by omega,H7.out,H8.out⟩
   case measure=>simp [intOf];omega
  ·obtain rfl:k=v.length:=by omega
   have d1:decide ((v.length:Int) < (v.length:Int))=false:=by simp
   rw [List.take_length] at h3 hll
   have e0:numW v.length ++ numsW v=vecW v:=rfl
   rw [e0] at h3 hll
   obtain ⟨A1,c1',rfl⟩:=h3.form
   have H3:=Lib.hid h3
   have H4:=Lib.hid h4
   clear h3 h4
   clear e0
   generalize vecW v=q at *
   go_wp2_with fail
   refine (put_b g l q A1 c1' _ (H.out.below H4.out) (H3.out.base_ (by omega)) (by omega)).mono ?_
   rintro e w3 ⟨rfl,h5,h6⟩
   have HR:=Lib.hid (show PutB g (l ++ q) w1 (.returned (.tuple #[])) w3 from ⟨rfl,h5,(H4.out.mono (by omega)).trans h6⟩)
   clear h5 h6
   go_wp2
   exact bodyPost_end (v:=.tuple #[]) (by simp [results,Tryz.results138,go_sem]) rfl HR.out
end Go.Proofs.YtdaphppdmnmicaaGreatDoor.wireb
