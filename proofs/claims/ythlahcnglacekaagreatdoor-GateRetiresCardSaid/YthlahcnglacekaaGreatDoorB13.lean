/- Part of GateRetires. -/
import Derived.Test.YthlahcnglacekaaGreatDoorB01
import Derived.WalkSpells
import Derived.Stop.IfaceNil
set_option maxRecDepth 100000
set_option maxHeartbeats 16000000
namespace Go.Proofs.YthlahcnglacekaaGreatDoor
namespace clock
open Go.RowKit base is_
def Err (w:World) (v:Value) (c:Int):Prop:=∃ g,v=.iface 121 (.pointer (some ⟨g,0,none⟩))∧g<w.heap.size∧w.cell? ⟨g,2,none⟩=some (.iface 41 (.int .i64 c))
theorem Err.keeps {X:Nat→Prop} {w w':World} {v:Value} {c:Int} (h:Err w v c) (hk:Keeps X w w') (hx:∀ g,v=.iface 121 (.pointer (some ⟨g,0,none⟩))→¬ X g):Err w' v c:=by
 obtain ⟨g,rfl,h1,h2⟩:=h;exact ⟨g,rfl,Nat.lt_of_lt_of_le h1 hk.size,(hk.cell 2 h1 (hx g rfl)).trans h2⟩
theorem Err.below {w w':World} {v:Value} {c:Int} (h:Err w v c) (hk:Below w.heap.size w w'):Err w' v c :=
 h.keeps (X:=nobody) (.of_below hk) (fun _ _ h=>h)
def ErrNew (c:Int) (w:World) (e:Ending) (w':World):Prop:=∃ v,e=.returned v∧Err w' v c∧v≠.nilIface∧Below w.heap.size w w'∧∀ g,v=.iface 121 (.pointer (some ⟨g,0,none⟩))→w.heap.size≤g
theorem at_any (s:ByteArray) (n c:Int) (w:World):Calls Tryz.prog 15 #[.string s,.int .i64 n,.iface 41 (.int .i64 c)] w (ErrNew c w):=by
 go_enter Tryz.func15,Tryz.ntmps15;go_wp2;go_ret
 refine ⟨_,rfl,⟨_,rfl,by simp,by simp [cell_new]⟩,by simp,(Below.refl _ _).alloc (Nat.le_refl _) _,fun g h=>?_⟩;simp at h;omega
theorem bad_any (c:Int) (w:World):Calls Tryz.prog 150 #[.int .i64 c] w (ErrNew c w):=by
 go_enter Tryz.func150,Tryz.ntmps150;go_wp2_with fail;refine (at_any _ _ _ _).mono ?_;rintro e w1 ⟨v,rfl,h1,h2,h3,h4⟩;have H:=qH (⟨v,rfl,h1,h2,h3,h4⟩:ErrNew c w (.returned v) w1);clear h1 h2 h3 h4;go_wp2;go_ret
 exact H.out
theorem is_err (v:Value) (c c':Int) (w:World) (h:Err w v c) :
  Calls Tryz.prog 9 #[v,.iface 41 (.int .i64 c')] w fun e w'=>e=.returned (.bool (c==c'))∧w=w':=by
 obtain ⟨g,rfl,_,h2⟩:=h;exact is_code g c c' w h2
def Clk (w:World) (g:Nat) (t r:Int):Prop:=Blk w g 258 #[.int .i64 t,.int .i64 r]
theorem new_yes (r t:Int) (w:World) (h1:0<r) (h2:r<17) (h3:0≤t) (h4:t≤1099511627776) :
  Calls Tryz.prog 89 #[.int .i64 r,.int .i64 t] w fun e w'=>e=.returned (.tuple #[.pointer (some ⟨w.heap.size,0,none⟩),.nilIface])∧Clk w' w.heap.size t r∧Below w.heap.size w w':=by
 go_enter Tryz.func89,Tryz.ntmps89;go_wp2;go_ret2
 exact ⟨rfl,Blk.new _ _ _,(Below.refl _ _).alloc (Nat.le_refl _) _⟩
def NoNew (c:Int) (w:World) (e:Ending) (w':World):Prop:=∃ v,e=.returned (.tuple #[.pointer none,v])∧Err w' v c∧v≠.nilIface∧Below w.heap.size w w'
theorem new_no (r t:Int) (w:World) (h:¬ (0<r∧r<17∧0≤t∧t≤1099511627776)) :
  Calls Tryz.prog 89 #[.int .i64 r,.int .i64 t] w (NoNew 1 w):=by
 have h':¬ 0<r∨(0<r∧¬ r<17)∨(0<r∧r<17∧¬ 0≤t)∨(0<r∧r<17∧0≤t∧¬ t≤1099511627776):=by omega
 clear h
 rcases h' with h1|⟨h1,h2⟩|⟨h1,h2,h3⟩|⟨h1,h2,h3,h4⟩
 all_goals
  go_enter Tryz.func89,Tryz.ntmps89;go_wp2_with fail;refine (bad_any _ _).mono ?_;rintro e w1 ⟨v,rfl,h1,h2,h3,h4⟩;have H:=qH (⟨v,rfl,h1,h2,h3⟩:NoNew 1 w (.returned (.tuple #[.pointer none,v])) w1);clear h1 h2 h3 h4;go_wp2;go_ret2
  exact H.out
theorem time_any (g:Nat) (t r:Int) (w:World) (h:Clk w g t r):Calls Tryz.prog 198 #[.pointer (some ⟨g,0,none⟩)] w fun e w'=>e=.returned (.int .i64 t)∧w=w':=by
 have hc:w.cell? ⟨g,0,none⟩=some (.int .i64 t):=h.cell 0;clear h;go_enter Tryz.func198,Tryz.ntmps198;go_wp2;go_ret
 exact ⟨rfl,rfl⟩
theorem see_yes (g:Nat) (t r n:Int) (w:World) (hc:Clk w g t r) (h1:0≤n) (h2:n≤1099511627776) :
  Calls Tryz.prog 201 #[.pointer (some ⟨g,0,none⟩),.int .i64 n] w fun e w'=>e=.returned .nilIface∧Clk w' g (max t n) r∧Keeps (· = g) w w':=by
 have h0:w.cell? ⟨g,0,none⟩=some (.int .i64 t):=hc.cell 0;have hf:w.frozen? ⟨g,0,none⟩=false:=hc.frozen 0;have H:=qH hc;clear hc;have hm:max t n=if t<n then n else t:=by split <;> omega
 rw [hm];clear hm
 by_cases hlt:t<n
 ·rw [if_pos hlt]
  go_enter Tryz.func201,Tryz.ntmps201;go_wp2;go_ret
  exact ⟨rfl,H.out.set_ 0 _,.set1 _ _ _ _⟩
 ·rw [if_neg hlt]
  go_enter Tryz.func201,Tryz.ntmps201;go_wp2;go_ret
  exact ⟨rfl,H.out.set_ 0 _,.set1 _ _ _ _⟩
def zst:Value:=.agg #[.int .i64 0,.int .i64 0]
def NoNext (c:Int) (w:World) (e:Ending) (w':World):Prop:=∃ v,e=.returned (.tuple #[zst,v])∧Err w' v c∧v≠.nilIface∧Below w.heap.size w w'
theorem next_long (g:Nat) (t r:Int) (w:World) (hc:Clk w g t r) (ht:1099511627776≤t):Calls Tryz.prog 199 #[.pointer (some ⟨g,0,none⟩)] w (NoNext 3 w):=by
 have h0:w.cell? ⟨g,0,none⟩=some (.int .i64 t):=hc.cell 0;have hlt:=hc.lt;clear hc;go_enter Tryz.func199,Tryz.ntmps199;go_wp2_with fail;refine (bad_any _ _).mono ?_;rintro e w1 ⟨v,rfl,h1,h2,h3,h4⟩;obtain ⟨hb,hf⟩:=bcell h3;have hz:=h3.size;simp at hz
 have hz':w.heap.size<w1.heap.size:=by omega
 obtain ⟨q,k⟩:=two w1 w.heap.size 128 _ _ (.int .i64 0) (.int .i64 0) ((Blk.new w 128 #[.int .i64 0,.int .i64 0]).below h3 (by simp));have HH:=qH (⟨v,rfl,h1.keeps k (fun g hg hh=>by have:=h4 g hg;simp at this;omega),h2,below_keeps ((below_new w _).trans (h3.mono (by simp))) (Nat.le_refl _) k (fun i hi hh=>by omega)⟩:NoNext 3 w (.returned (.tuple #[zst,v])) _);have Hq:=qH q;clear h1 h2 h3 h4 hz q k;go_wp2;have q0:=Hq.out.cell 0;have q1:=Hq.out.cell 1;simp at q0 q1
 exact bodyPost_ret (v:=.tuple #[zst,v]) (by simp [results,Tryz.results199,go_sem,zst,q0,q1]) rfl HH.out
theorem next_yes (g:Nat) (t r:Int) (w:World) (hc:Clk w g t r) (h0t:0≤t) (ht:t<1099511627776):Calls Tryz.prog 199 #[.pointer (some ⟨g,0,none⟩)] w fun e w' =>
  e=.returned (.tuple #[.agg #[.int .i64 (t+1),.int .i64 r],.nilIface])∧Clk w' g (t+1) r∧Keeps (· = g) w w':=by
 have h0:w.cell? ⟨g,0,none⟩=some (.int .i64 t):=hc.cell 0;have h1:w.cell? ⟨g,1,none⟩=some (.int .i64 r):=hc.cell 1;have hf:w.frozen? ⟨g,0,none⟩=false:=hc.frozen 0;have hlt:=hc.lt;have H:=qH hc;clear hc;go_enter Tryz.func199,Tryz.ntmps199;go_wp2;have q0:=cell_new (w.setCell ⟨g,0,none⟩ (.int .i64 (t+1))) #[.int .i64 (t+1),.int .i64 r] 128 (0,0) 0;have q1:=cell_new (w.setCell ⟨g,0,none⟩ (.int .i64 (t+1))) #[.int .i64 (t+1),.int .i64 r] 128 (0,0) 1;simp at q0 q1
 exact bodyPost_ret (v:=.tuple #[.agg #[.int .i64 (t+1),.int .i64 r],.nilIface]) (by simp [results,Tryz.results199,go_sem,q0,q1]) rfl
  ⟨rfl,(by have:=H.out.set_ 0 (.int .i64 (t+1));simpa [Clk] using this.alloc _),(Keeps.set1 _ _ _ _).trans (.alloc _)⟩
end clock
end Go.Proofs.YthlahcnglacekaaGreatDoor
