/- A part of the proof of RegionNone: TrimF, New. -/
import Derived.Test.YtdaphppdmnmicaaGreatDoorA28
namespace Go.Proofs.YtdaphppdmnmicaaGreatDoor.feed
open Go.RowKit base rowe err wire monoj
def minI (a b:Int):Int:=if b < a then b else a
def leastI (rg nn:Nat) (last:Int) (K:List Int):Nat→Int
 | 0=>last
 | p + 1=>if isB rg nn p=true then minI (leastI rg nn last K p) (K.getD (p - 1) 0) else leastI rg nn last K p
def trimN (rg nn bs:Nat) (L:List Wr) (K:List Int):Int:=leastI rg nn ((bs + L.length:Nat):Int) K 17 - bs
section
variable {S:Nat→Prop} {w:World} {g rg nn bs:Nat} {L:List Wr} {K:List Int}
end
end Go.Proofs.YtdaphppdmnmicaaGreatDoor.feed
namespace Go.Proofs.YtdaphppdmnmicaaGreatDoor.feed
open Go.RowKit base rowe err wire monoj
def addAll (rg bs:Nat):List Wr→List Wr→Option (List Wr)
 | acc,[]=>some acc
 | acc,x :: xs=>if addC rg bs acc x=0 then addAll rg bs (acc ++ [x.abs]) xs else none
def badNew (rg nn bs:Int):Bool:=decide (nn < 1) || (decide (16 < nn) || (decide (rg < 1) || (decide (nn < rg) || (decide (bs < 0) || decide (1099511627776 < bs)))))
def newL (rg nn bs:Int) (L:List Wr):Option (List Wr):=if badNew rg nn bs=true then none else addAll rg.toNat bs.toNat [] L
def NewYes (rg nn bs:Int) (L2:List Wr) (w:World) (e:Ending) (w':World):Prop :=
 ∃ g S,e=.returned (.tuple #[.pointer (some ⟨g,0,none⟩),.nilIface])∧FeedS w' S g rg.toNat nn.toNat bs.toNat L2 (List.replicate nn.toNat bs)∧(∀ i,S i→w.heap.size≤i)∧Below w.heap.size w w'
def NewNo (w:World) (e:Ending) (w':World):Prop :=
 ∃ v,e=.returned (.tuple #[.pointer none,v])∧Err w' v 1∧v ≠ .nilIface∧(∀ i,v=.iface 167 (.pointer (some ⟨i,0,none⟩))→w.heap.size≤i)∧Below w.heap.size w w'
def NewR (rg nn bs:Int) (L:List Wr) (w:World) (e:Ending) (w':World):Prop :=
 (∃ L2,newL rg nn bs L=some L2∧NewYes rg nn bs L2 w e w') ∨ (newL rg nn bs L=none∧NewNo w e w')
theorem new_no {w w1 w2:World} {v:Value} (hb:Below w.heap.size w w1) (he:ErrNew 1 w1 (.returned v) w2):NewNo w (.returned (.tuple #[.pointer none,v])) w2:=by
 obtain ⟨v',e,h1,h2,h3,h4⟩:=he
 injection e with e
 subst e
 exact ⟨v,rfl,h1,h2,fun i hi=>Nat.le_trans hb.size (h4 i hi),hb.trans (h3.mono hb.size)⟩
set_option maxRecDepth 100000 in
set_option maxHeartbeats 4000000 in
theorem new_any (rg nn bs:Int) (v:Value) (L:List Wr) (w:World) (hl:RW w v L):Calls Tryz.prog 93 #[.int .i64 rg,.int .i64 nn,.int .i64 bs,v] w (NewR rg nn bs L w):=by
 cases e1:decide (nn < 1) with
 | true =>
  have HQ:=Lib.hid (show newL rg nn bs L=none by unfold newL;rw [if_pos (by unfold badNew;rw [e1];rfl)])
  clear hl
  go_enter Tryz.func93,Tryz.ntmps93
  go_wp2_with fail
  refine (bad_any _ _ _).mono ?_
  rintro e w1 ⟨v1,rfl,h1,h2,h3,h4⟩
  have HR:=Lib.hid (show NewR rg nn bs L w (.returned (.tuple #[.pointer none,v1])) w1 from .inr ⟨HQ.out,new_no (Below.refl _ _) ⟨v1,rfl,h1,h2,h3,h4⟩⟩)
  clear h1 h2 h3 h4
  go_wp2
  exact bodyPost_ret (v:=.tuple #[.pointer none,v1]) (by simp [results,Tryz.results93,go_sem]) rfl HR.out
 | false =>
  cases e2:decide (16 < nn) with
  | true =>
   have HQ:=Lib.hid (show newL rg nn bs L=none by unfold newL;rw [if_pos (by unfold badNew;rw [e1,e2];rfl)])
   clear hl
   go_enter Tryz.func93,Tryz.ntmps93
   go_wp2_with fail
   refine (bad_any _ _ _).mono ?_
   rintro e w1 ⟨v1,rfl,h1,h2,h3,h4⟩
   have HR:=Lib.hid (show NewR rg nn bs L w (.returned (.tuple #[.pointer none,v1])) w1 from .inr ⟨HQ.out,new_no (Below.refl _ _) ⟨v1,rfl,h1,h2,h3,h4⟩⟩)
   clear h1 h2 h3 h4
   go_wp2
   exact bodyPost_ret (v:=.tuple #[.pointer none,v1]) (by simp [results,Tryz.results93,go_sem]) rfl HR.out
  | false =>
   cases e3:decide (rg < 1) with
   | true =>
    have HQ:=Lib.hid (show newL rg nn bs L=none by unfold newL;rw [if_pos (by unfold badNew;rw [e1,e2,e3];rfl)])
    clear hl
    go_enter Tryz.func93,Tryz.ntmps93
    go_wp2_with fail
    refine (bad_any _ _ _).mono ?_
    rintro e w1 ⟨v1,rfl,h1,h2,h3,h4⟩
    have HR:=Lib.hid (show NewR rg nn bs L w (.returned (.tuple #[.pointer none,v1])) w1 from .inr ⟨HQ.out,new_no (Below.refl _ _) ⟨v1,rfl,h1,h2,h3,h4⟩⟩)
    clear h1 h2 h3 h4
    go_wp2
    exact bodyPost_ret (v:=.tuple #[.pointer none,v1]) (by simp [results,Tryz.results93,go_sem]) rfl HR.out
   | false =>
    cases e4:decide (nn < rg) with
    | true =>
     have HQ:=Lib.hid (show newL rg nn bs L=none by unfold newL;rw [if_pos (by unfold badNew;rw [e1,e2,e3,e4];rfl)])
     clear hl
     go_enter Tryz.func93,Tryz.ntmps93
     go_wp2_with fail
     refine (bad_any _ _ _).mono ?_
     rintro e w1 ⟨v1,rfl,h1,h2,h3,h4⟩
     have HR:=Lib.hid (show NewR rg nn bs L w (.returned (.tuple #[.pointer none,v1])) w1 from .inr ⟨HQ.out,new_no (Below.refl _ _) ⟨v1,rfl,h1,h2,h3,h4⟩⟩)
     clear h1 h2 h3 h4
     go_wp2
     exact bodyPost_ret (v:=.tuple #[.pointer none,v1]) (by simp [results,Tryz.results93,go_sem]) rfl HR.out
    | false =>
     cases e5:decide (bs < 0) with
     | true =>
      have HQ:=Lib.hid (show newL rg nn bs L=none by unfold newL;rw [if_pos (by unfold badNew;rw [e1,e2,e3,e4,e5];rfl)])
      clear hl
      go_enter Tryz.func93,Tryz.ntmps93
      go_wp2_with fail
      refine (bad_any _ _ _).mono ?_
      rintro e w1 ⟨v1,rfl,h1,h2,h3,h4⟩
      have HR:=Lib.hid (show NewR rg nn bs L w (.returned (.tuple #[.pointer none,v1])) w1 from .inr ⟨HQ.out,new_no (Below.refl _ _) ⟨v1,rfl,h1,h2,h3,h4⟩⟩)
      clear h1 h2 h3 h4
      go_wp2
      exact bodyPost_ret (v:=.tuple #[.pointer none,v1]) (by simp [results,Tryz.results93,go_sem]) rfl HR.out
     | false =>
      cases e6:decide (1099511627776 < bs) with
      | true =>
       have HQ:=Lib.hid (show newL rg nn bs L=none by unfold newL;rw [if_pos (by unfold badNew;rw [e1,e2,e3,e4,e5,e6];rfl)])
       clear hl
       go_enter Tryz.func93,Tryz.ntmps93
       go_wp2_with fail
       refine (bad_any _ _ _).mono ?_
       rintro e w1 ⟨v1,rfl,h1,h2,h3,h4⟩
       have HR:=Lib.hid (show NewR rg nn bs L w (.returned (.tuple #[.pointer none,v1])) w1 from .inr ⟨HQ.out,new_no (Below.refl _ _) ⟨v1,rfl,h1,h2,h3,h4⟩⟩)
       clear h1 h2 h3 h4
       go_wp2
       exact bodyPost_ret (v:=.tuple #[.pointer none,v1]) (by simp [results,Tryz.results93,go_sem]) rfl HR.out
      | false =>
       obtain ⟨i0,hi,hz⟩:=Option.map_eq_some_iff.1 int_info
       simp only [Prod.mk.injEq] at hz
       obtain ⟨hz0,hz1,hz2⟩:=hz
       have hQ:newL rg nn bs L=addAll rg.toNat bs.toNat [] L:=by unfold newL;rw [if_neg (by unfold badNew;rw [e1,e2,e3,e4,e5,e6];decide)]
       simp only [decide_eq_false_iff_not] at e1 e2 e3 e4 e5 e6
       obtain ⟨a,rfl⟩:=Int.eq_ofNat_of_zero_le (show 0≤rg by omega)
       obtain ⟨m,rfl⟩:=Int.eq_ofNat_of_zero_le (show 0≤nn by omega)
       obtain ⟨b0,rfl⟩:=Int.eq_ofNat_of_zero_le (show 0≤bs by omega)
       simp only [Int.toNat_natCast] at hQ
       have d1:decide ((m:Int) < 1)=false:=by simp;omega
       have d2:decide ((16:Int) < (m:Int))=false:=by simp;omega
       have d3:decide ((a:Int) < 1)=false:=by simp;omega
       have d4:decide (m < a)=false:=by simp;omega
       have d5:decide ((b0:Int) < 0)=false:=by simp
       have d6:decide ((1099511627776:Int) < (b0:Int))=false:=by simp;omega
       have HN0:=Lib.hid (show 1≤a∧a≤m∧m≤16∧b0≤1099511627776 by omega)
       have hm16:m≤16:=by omega
       have Hl:=Lib.hid hl
       obtain ⟨A,c,rfl,hfew,hlc,hr,hn⟩:=hl
       have HQ:=Lib.hid hQ
       have Hr:=Lib.hid hr
       have Hn:=Lib.hid hn
       clear hQ hr hn
       clear e1 e2 e3 e4 e5 e6
       go_enter Tryz.func93,Tryz.ntmps93
       go_wp2_with fail
       go_loopw [43] (fun i wr'=>∃ k:Nat,k≤m∧i=.int .i64 k∧∃ vk,Blk wr' w.heap.size 302 #[.int .i64 a,.int .i64 m,.int .i64 b0,.slice none 0 0,vk]∧wr'.ownsRow (w.heap.size + 1) 3 1 vk k ((List.replicate k (b0:Int)).map (Value.int .i64))∧Below w.heap.size w wr') (fun i _=>m - (intOf i).toNat)
       case atStart=>exact ⟨0,by omega,rfl,_,Blk.new w 302 _,⟨rfl,.inl ⟨rfl,rfl⟩⟩,below_new _ _⟩
       case round =>
        obtain ⟨k,hk,rfl,vk,hb,hrow,hbw⟩:=hrel
        have hlt:=hb.lt
        obtain ⟨Ak,ck,rfl⟩:=ownsRow_slice hrow
        by_cases hkm:k < m
        ·have d7:decide ((k:Int) < (m:Int))=true:=by simp;omega
         have c4:wr.cell? ⟨w.heap.size,4,none⟩=_:=hb.cell 4
         simp at c4
         have Hb:=Lib.hid hb
         have Hrow:=Lib.hid hrow
         have Hbw:=Lib.hid hbw
         clear hb hrow hbw
         go_wp2_with (at_builtin;refine wpList_append_newAt rfl (.tmp 49) (.tmp 51) _ rfl (w.heap.size + 1) 3 i0 _ 1 8 Tryz.underlying26 hi hz0 hz1 hz2 rfl (by decide) (.slice Ak k ck) k _ rfl Hrow.out 1 1 wr.heap.size rfl [.int .i64 b0] rfl rfl (by simp [Value.oneCell']) (by unfold maxLen;omega) (by omega) hlt ?_;intro v5 w5 hown5 hbw5 hgr5 hwh5;obtain ⟨A5,c5,rfl⟩:=ownsRow_slice hown5;have hb5:=Hb.out.below hbw5 (Nat.lt_succ_self _);have k4:w5.cell? ⟨w.heap.size,4,none⟩=some (.slice Ak k ck):=hb5.cell 4;have kf:=hb5.frozen 4;have kl:=hb5.lt;have Hb5:=Lib.hid hb5;have Hown5:=Lib.hid hown5;have Hbw5:=Lib.hid (Hbw.out.trans (hbw5.mono (Nat.le_succ _)));clear hown5 hbw5 hgr5 hwh5 hb5)
         go_roundw
         case rel =>
          refine ⟨k + 1,by omega,by go_num,.slice A5 (k + 1) c5,?_,?_,?_⟩
          rotate_left
          ·have:=own_keeps (w':=w5.setCell ⟨w.heap.size,4,none⟩ (.slice A5 (k + 1) c5)) Hown5.out (Keeps.set1 w5 w.heap.size 4 _) (fun i hi e=>by omega)
           rw [List.replicate_succ',List.map_append]
           exact this
          ·exact Hbw5.out.setCell (p:=⟨w.heap.size,4,none⟩) (Nat.le_refl _) _
          ·have:=Hb5.out.set_ 4 (.slice A5 (k + 1) c5)
           simpa using this
         case measure=>simp [intOf];omega
        ·obtain rfl:m=k:=by omega
         have d7:decide ((m:Int) < (m:Int))=false:=by simp
         have hn4:=HN0.out
         obtain ⟨k0,c0,e0,hk0,hk0s⟩:=hrow.form (by omega)
         injection e0 with e0 _ e1
         subst e0 e1
         have hF:FeedF wr (fun i=>w.heap.size≤i∧i < wr.heap.size) w.heap.size a m b0 [] (List.replicate m (b0:Int)) (.slice none 0 0) k0 ck :=
          ⟨by simpa using hb,OW.none _ _ _,by simpa using hrow,⟨Nat.le_refl _,hlt⟩,⟨by omega,hk0s⟩,by simp,by omega,by omega,by omega,by simp;omega,fun i hi=>hi.2,fun k hk=>by rw [List.eq_of_mem_replicate hk];omega⟩
         have HS:=Lib.hid (show FeedS wr (fun i=>w.heap.size≤i∧i < wr.heap.size) w.heap.size a m b0 [] (List.replicate m (b0:Int)) from ⟨[],_,k0,ck,rfl,hF⟩)
         have Hbw:=Lib.hid hbw
         clear hF hrow hb hbw hn4
         obtain ⟨wo,rfl⟩:∃ wo:World,wo=wr:=⟨_,rfl⟩
         obtain ⟨q,hq⟩:∃ q,L.length=q:=⟨_,rfl⟩
         rw [hq] at hfew hlc Hr ⊢
         have Hq:=Lib.hid hq
         clear hq
         go_wp2_with fail
         go_loopw [12,58] (fun _ i wr'=>∃ k:Nat,k≤q∧i=.int .i64 k∧∃ S acc,FeedS wr' S w.heap.size a m b0 acc (List.replicate m (b0:Int))∧addAll a b0 acc (L.drop k)=addAll a b0 [] L∧acc.length≤k∧(∀ i,S i→w.heap.size≤i)∧Below w.heap.size w wr') (fun _ i _=>q - (intOf i).toNat)
         case atStart=>exact ⟨0,by omega,rfl,_,[],HS.out,rfl,by simp,fun i hi=>hi.1,Hbw.out⟩
         case round =>
          clear HS Hbw
          obtain ⟨k,hk,rfl,S,acc,hS,hacc,hal,hSw,hbw⟩:=hrel
          have hsz:=hbw.size
          by_cases hkq:k < q
          ·have hmlt:k < L.length:=by rw [Hq.out];exact hkq
           obtain ⟨b,off,rfl,hbb⟩:=Hr.out.at_some (by omega)
           have hnx:=Hn.out L[k] (List.getElem_mem hmlt)
           have hdr:L.drop k=L[k] :: L.drop (k + 1):=List.drop_eq_getElem_cons hmlt
           rw [hdr] at hacc
           have hcell:∀ j v,(L[k]).cells[j]?=some v→wr.cell? ⟨b,off + k * 10 + j,none⟩=some v:=fun j v hj=>by
            have hj2:j < 10:=by
             rcases Nat.lt_or_ge j 10 with h|h
             ·exact h
             ·rw [List.getElem?_eq_none (by rw [Wr.len];exact h)] at hj;cases hj
            exact (Reads.thing Wr.cells Wr.len (Hr.out.below hbw) (k:=k) (x:=L[k]) hkq (List.getElem?_eq_getElem hmlt) j hj2).trans hj
           generalize L[k]=x at *
           have hnx1:=(hnx.1.below hbw).more hsz
           obtain ⟨r,n1,t,s,d,zs,se,kk,v,g,l⟩:=x
           have hz6:=hnx.2
           dsimp only at hnx1 hz6
           have Hnx:=Lib.hid hnx1
           have Hacc:=Lib.hid hacc
           have Hcell:=Lib.hid hcell
           have HS:=Lib.hid hS
           have Hbw:=Lib.hid hbw
           clear hnx hnx1 hacc hcell hS hbw hdr
           go_wp2_with (first|(refine wpList_load_at rfl 34 (.tmp 60) rfl b (off + k * 10) (Wr.cells ⟨r,n1,t,s,d,zs,se,kk,v,g,l⟩) rfl Tryz.underlying34 rfl (by kernel_rfl) Hcell.out ?_)|(refine wpList_store_blk rfl 34 (.tmp 12) (.tmp 61) rfl wr.heap.size (Wr.cells ⟨r,n1,t,s,d,zs,se,kk,v,g,l⟩) rfl rfl (Blk.new wr 34 #[.int .i64 0,.int .i64 0,.int .i64 0,.int .i64 0,.slice none 0 0,.string ⟨#[]⟩,.string ⟨#[]⟩,.string ⟨#[]⟩,.bool false,.int .i64 0]) (by kernel_rfl) rfl (oneAll ⟨r,n1,t,s,d,zs,se,kk,v,g,l⟩ (nums_one Hnx.out)) ?_;intro w9 ho9 hk9 hs9)|(refine wpList_load_at rfl 34 (.tmp 12) rfl wr.heap.size 0 (Wr.cells ⟨r,n1,t,s,d,zs,se,kk,v,g,l⟩) rfl Tryz.underlying34 rfl (by kernel_rfl) (fun j v hj=>by rw [Nat.zero_add,ho9.cell j];simpa using hj) ?_))
           have hb9:Below wr.heap.size wr w9:=(below_new wr (.cells #[.int .i64 0,.int .i64 0,.int .i64 0,.int .i64 0,.slice none 0 0,.string ⟨#[]⟩,.string ⟨#[]⟩,.string ⟨#[]⟩,.bool false,.int .i64 0] 34)).trans (hk9.below (fun i hi e=>by omega) (by simp))
           have hs9':=hb9.size
           have Hnx9:=Lib.hid ((Hnx.out.below hb9).more hs9')
           have HS9:=Lib.hid (HS.out.below hb9)
           have Hb9:=Lib.hid (Hbw.out.trans (hb9.mono hsz))
           clear ho9 hk9 hb9 Hnx HS Hbw Hcell
           refine (add_any ⟨r,n1,t,s,d,zs,se,kk,v,g,l⟩ HS9.out Hnx9.out hz6 (by omega)).mono ?_
           rintro e w10 ⟨v10,S10,rfl,heo,hnew,hS10,hk10,hs10⟩
           have hb10:=Hb9.out.trans (hk10.below (B:=w.heap.size) (fun i hi e=>by have:=hSw i e;omega) Hb9.out.size)
           rcases heo with ⟨hc0,rfl⟩|⟨hc0,herr,hvn⟩
           ·have HA:=Lib.hid (show addAll a b0 (acc ++ [(⟨r,n1,t,s,d,zs,se,kk,v,g,l⟩:Wr).abs]) (L.drop (k + 1))=addAll a b0 [] L by
             rw [← Hacc.out]
             show _=(if addC a b0 acc _=0 then _ else _)
             rw [if_pos hc0])
            have HS10:=Lib.hid (show FeedS w10 S10 w.heap.size a m b0 (acc ++ [(⟨r,n1,t,s,d,zs,se,kk,v,g,l⟩:Wr).abs]) (List.replicate m (b0:Int)) by
             unfold addL at hS10
             rwa [if_pos hc0] at hS10)
            have Hb10:=Lib.hid hb10
            have hS11:∀ i,S10 i→w.heap.size≤i:=fun i hi=>(hs10 i hi).elim (hSw i) (fun h=>by have:=Hb9.out.size;omega)
            clear hS10 hk10 hs10 hb10 hnew
            go_wp2_with fail
            go_roundw
            case rel=>exact ⟨k + 1,by omega,by go_num,S10,_,HS10.out,HA.out,by simp;omega,hS11,Hb10.out⟩
            case measure=>simp [intOf];omega
           ·obtain ⟨ge,rfl⟩:=herr.form
            have HA:=Lib.hid (show newL (a:Int) (m:Int) (b0:Int) L=none by
             rw [HQ.out,← Hacc.out]
             show (if addC a b0 acc _=0 then _ else _)=_
             rw [if_neg hc0])
            have Hb10:=Lib.hid hb10
            clear hS10 hk10 hs10 hb10 hnew herr hvn
            go_wp2_with fail
            refine (bad_any _ _ _).mono ?_
            rintro e w11 ⟨v1,rfl,h1,h2,h3,h4⟩
            have HR:=Lib.hid (show NewR a m b0 L w (.returned (.tuple #[.pointer none,v1])) w11 from .inr ⟨HA.out,new_no Hb10.out ⟨v1,rfl,h1,h2,h3,h4⟩⟩)
            clear h1 h2 h3 h4
            go_wp2
            exact bodyPost_ret (v:=.tuple #[.pointer none,v1]) (by simp [results,Tryz.results93,go_sem]) rfl HR.out
          ·obtain rfl:q=k:=by omega
           have hde:L.drop q=[]:=List.drop_eq_nil_of_le (by rw [Hq.out];omega)
           rw [hde] at hacc
           have HR:=Lib.hid (show NewR a m b0 L w (.returned (.tuple #[.pointer (some ⟨w.heap.size,0,none⟩),.nilIface])) wr from .inl ⟨acc,HQ.out.trans hacc.symm,w.heap.size,S,rfl,hS,hSw,hbw⟩)
           clear hS hacc hbw hde
           go_wp2
           exact bodyPost_ret (v:=.tuple #[.pointer (some ⟨w.heap.size,0,none⟩),.nilIface]) (by simp [results,Tryz.results93,go_sem]) rfl HR.out
end Go.Proofs.YtdaphppdmnmicaaGreatDoor.feed
