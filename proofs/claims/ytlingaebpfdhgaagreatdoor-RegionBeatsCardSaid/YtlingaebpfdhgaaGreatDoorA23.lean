/- A part of the proof of RegionBeats: Keys. -/
import Derived.Test.YtlingaebpfdhgaaGreatDoorA07
import Derived.Test.YtlingaebpfdhgaaGreatDoorA02
namespace Go.Proofs.YtlingaebpfdhgaaGreatDoor.keys
open Go.RowKit Go.Maps Go.Sort Go.Shelf
open base list err tab new
theorem less_lt:∀ a b:List UInt8,Op.bytesLess a b=true ↔ a < b
 | _,[]=>by simp [Op.bytesLess]
 | [],b :: y=>by simp [Op.bytesLess]
 | a :: x,b :: y=>by
  simp only [Op.bytesLess,Bool.or_eq_true,Bool.and_eq_true,decide_eq_true_eq,beq_iff_eq,List.cons_lt_cons_iff,less_lt x y]
theorem keys_dm (L:List Ep):strKeys (dm L)=L.map fun e=>e.u.data.toList:=by
 simp [dm,strKeys,ent,strOf]
theorem sorted_keys (L:List Ep) (h:Rising L) (ss:List (List UInt8)) (hp:ss.Perm (strKeys (dm L))):(ss.mergeSort (fun x y=>decide (x≤y))).map encStr=L.map (fun e=>Value.string e.u)∧ss.length=L.length:=by
 have h1:ss.mergeSort (fun x y=>decide (x≤y))=(strKeys (dm L)).mergeSort (fun x y=>decide (x≤y)):=mergeSort_of_perm hp
 have h2:(strKeys (dm L)).Pairwise (fun x y=>decide (x≤y)=true):=by
  rw [keys_dm]
  clear hp h1
  induction L with
  | nil=>simp
  | cons e L ih =>
   refine List.pairwise_cons.2 ⟨fun x hx=>?_,ih h.2⟩
   obtain ⟨f,hf,rfl⟩:=List.mem_map.1 hx
   have:=h.1 f hf
   unfold bl at this
   rw [ByteArray.toList_eq,ByteArray.toList_eq,less_lt] at this
   simp only [decide_eq_true_eq]
   exact List.le_of_lt this
 rw [h1,List.mergeSort_of_pairwise h2,keys_dm,List.map_map]
 have:=hp.length_eq
 rw [keys_dm,List.length_map] at this
 exact ⟨rfl,this⟩
theorem keys_any (b:Nat) (L:List Ep) (w:World) (h:MapL w b L) (hl:L.length≤1000) :
  Calls Tryz.prog 153 #[.func (.func 185) #[] #[.pointer (some ⟨w.heap.size,0,none⟩)]] (w.alloc (.cells #[.map (some b)] 172))
   fun e w'=>∃ v,e=.returned v∧w'.ownsRow w.heap.size 9 1 v L.length (L.map fun e=>Value.string e.u)∧Below w.heap.size w w':=by
 have hc:=callsIn_wide.1 (Tryz.slices_Sorted_keys_153_154 b L.length (dm L) _ w h.1 (by rw [size_dm];unfold maxLen;omega) (by rw [size_dm];omega))
 refine hc.mono ?_
 rintro e w' ⟨v,ss,rfl,hp,hown,_,hb⟩
 obtain ⟨h1,h2⟩:=sorted_keys L h.2 ss hp
 rw [h1,h2] at hown
 exact ⟨v,rfl,⟨hown.1,hown.2.imp id fun ⟨g,cap,cur,e,h1,r⟩=>⟨g,cap,cur,e,by simp at h1;omega,r⟩⟩,below_step (below_new w _) hb⟩
def ListR (L:List Ep) (w:World) (e:Ending) (w':World):Prop:=∃ A c,e=.returned (.slice A L.length c)∧w'.ownsRow w.heap.size 36 2 (.slice A L.length c) L.length (L.flatMap ep)∧Below w.heap.size w w'
theorem get_take (L:List Ep) (h:Rising L) (k:Nat) (x:Ep) (hx:L[k]?=some x):getL L x.u=x.n:=by
 induction L generalizing k with
 | nil=>simp at hx
 | cons e L ih =>
  cases k with
  | zero=>simp at hx;subst hx;simp [getL,eqb_self]
  | succ k =>
   simp at hx
   have:=h.1 x (List.mem_of_getElem? hx)
   simp only [getL,eqb_false (fun he:e.u=x.u=>by rw [he,bl_irr] at this;cases this),Bool.false_eq_true,if_false]
   exact ih h.2 k hx
set_option maxRecDepth 100000 in
set_option maxHeartbeats 1600000 in
theorem list_any (g b:Nat) (L:List Ep) (w:World) (h:Tab w g b L) (hl:L.length≤1000) (hu:∀ e ∈ L,e.u.size≤1000000) :
  Calls Tryz.prog 97 #[.pointer (some ⟨g,0,none⟩)] w (ListR L w):=by
 obtain ⟨i0,hi,hz0,hz1,hz2⟩:=info_parts ep_info
 have h0:w.cell? ⟨g,0,none⟩=some (.map (some b)):=h.1.cell 0
 have hgl:=h.1.lt
 have Hu:=Lib.hid hu
 have H:=Lib.hid h
 clear h
 clear hu
 generalize hn:L.length=n at *
 have Hn:=Lib.hid hn
 clear hn
 have hk1:=callsIn_wide.1 (Tryz.maps_Keys_154 (some b) w)
 have hk2:=keys_any b L w H.out.2 (by rw [Hn.out];exact hl)
 rw [Hn.out] at hk2
 have Hk1:=Lib.hid hk1
 have Hk2:=Lib.hid hk2
 clear hk1 hk2
 go_enter Tryz.func97,Tryz.ntmps97
 go_wp2_with fail
 refine (Hk1.out).mono ?_
 rintro e w1 ⟨rfl,rfl⟩
 go_wp2_with fail
 refine (Hk2.out).mono ?_
 rintro e w1 ⟨v,rfl,hown,hb⟩
 obtain ⟨vA,vc,rfl⟩:=ownsRow_slice hown
 have hrd:=(Reads.of_own hown).more (Nat.le_refl _)
 have hvc:n≤vc∧vc≤9223372036854775807:=by
  rcases hown.2 with ⟨e,e2⟩|⟨g,cap,cur,e,_,_,e1,e2,_⟩
  ·injection e with _ _ e;subst e;omega
  ·injection e with _ _ e;subst e;unfold maxLen at e2;exact ⟨e1,by omega⟩
 obtain ⟨hv1,hv2⟩:=hvc
 have hT1:=H.out.below hb
 have Hrd:=Lib.hid hrd
 have Hb:=Lib.hid hb
 have HT1:=Lib.hid hT1
 clear hrd hb hT1
 clear hown
 go_wp2
 go_loopw [3,5,15] (fun o _ i wr=>∃ k:Nat,k≤n∧i=.int .i64 k∧wr.ownsRow w1.heap.size 36 2 o k ((L.take k).flatMap ep)∧Below w1.heap.size w1 wr) (fun _ _ i _=>n - (intOf i).toNat)
 case atStart=>exact ⟨0,by omega,rfl,World.ownsRow_nil _ _ _ _,.refl _ _⟩
 case round =>
  obtain ⟨k,hk,rfl,hown,hbw⟩:=hrel
  have hT2:=HT1.out.below hbw
  have h02:wr.cell? ⟨g,0,none⟩=some (.map (some b)):=hT2.1.cell 0
  have hsz:w1.heap.size≤wr.heap.size:=hbw.size
  have hbb:=below_step Hb.out hbw
  by_cases hlt:k < n
  ·obtain ⟨vb,vo,rfl,hvb⟩:=Hrd.out.at_some (by omega)
   have hkl:k < L.length:=by rw [Hn.out];exact hlt
   have hx:L[k]?=some L[k]:=List.getElem?_eq_getElem hkl
   have hcell:=((Hrd.out.below hbw).get (j:=k) (v:=.string L[k].u) (by omega) (by rw [List.getElem?_map,hx];rfl))
   have hlook:=hT2.2.look (u:=L[k].u) (by have:=Hu.out _ (List.getElem_mem hkl);unfold maxLen;omega)
   rw [get_take L HT1.out.2.2 k _ hx] at hlook
   have htk:(L.take (k + 1)).flatMap ep=(L.take k).flatMap ep ++ [.string L[k].u,.int .i64 L[k].n]:=by rw [take_last hx,List.flatMap_append];simp [ep]
   generalize L[k]=x at *
   obtain ⟨xu,xn⟩:=x
   dsimp only at hcell hlook htk
   have Hown:=Lib.hid hown
   have Hbw:=Lib.hid hbw
   have Htk:=Lib.hid htk
   have Hbb:=Lib.hid hbb
   clear hown hbw htk hbb
   clear hT2 hx
   go_wp2_with (at_builtin;refine wpList_append_new rfl (.tmp 19) (.tmp 28) _ rfl w1.heap.size 36 i0 _ 2 24 Tryz.underlying25 hi hz0 hz1 hz2 rfl (by decide) _ _ _ rfl Hown.out 1 1 [.string xu,.int .i64 xn] rfl rfl (by simp [Value.oneCell']) (by unfold maxLen;omega) (by omega) hsz ?_;intro v1 w2 hown1 hbw1 _ _;have Hown1:=Lib.hid hown1;have Hbw1:=Lib.hid hbw1;clear hown1 hbw1)
   go_roundw
   case rel=>exact ⟨k + 1,by omega,by go_num,by rw [Htk.out];exact Hown1.out,Hbw.out.trans Hbw1.out⟩
   case measure=>simp [intOf];omega
  ·obtain rfl:k=n:=by omega
   rw [List.take_of_length_le (by rw [Hn.out];exact Nat.le_refl _)] at hown
   obtain ⟨oA,oc,rfl⟩:=ownsRow_slice hown
   have HH:=Lib.hid (⟨oA,oc,by rw [Hn.out],by rw [Hn.out];exact ⟨hown.1,hown.2.imp id fun ⟨g,cap,cur,e,h1,r⟩=>⟨g,cap,cur,e,by have:=Hb.out.size;omega,r⟩⟩,hbb⟩:ListR L w (.returned (.slice oA k oc)) wr)
   clear hown hbw hT2 hbb
   go_wp2
   go_ret
   exact HH.out
end Go.Proofs.YtlingaebpfdhgaaGreatDoor.keys
