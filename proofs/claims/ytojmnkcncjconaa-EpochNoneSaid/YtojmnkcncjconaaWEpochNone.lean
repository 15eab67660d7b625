/- The walk of the law EpochNone. -/
import Derived.Test.YtojmnkcncjconaaOps
namespace Go.Proofs.Ytojmnkcncjconaa.wEpochNone
open Go.RowKit Go.Proofs.Ytojmnkcncjconaa.base Go.Proofs.Ytojmnkcncjconaa.list Go.Proofs.Ytojmnkcncjconaa.err Go.Proofs.Ytojmnkcncjconaa.tab Go.Proofs.Ytojmnkcncjconaa.new Go.Proofs.Ytojmnkcncjconaa.awake Go.Proofs.Ytojmnkcncjconaa.ops

theorem blk3 {w w' : World} {g : Nat} {t : TypeId} {a b c : Value} (h : Blk w g t #[a, b, c]) (hb : Below w.heap.size w w') :
    Blk w' g t #[a, b, c] ∧ w'.cell? ⟨g, 1, none⟩ = some b ∧ w'.cell? ⟨g, 2, none⟩ = some c ∧ g < w'.heap.size :=
  have h' := h.below hb h.lt
  ⟨h', h'.cell 1, h'.cell 2, h'.lt⟩
set_option maxRecDepth 100000 in
set_option maxHeartbeats 1600000 in
theorem walk (v0 : Value) (w : World) (a0 : Arg Try.prog w 32 v0) :
    Calls Try.prog 7 #[v0] w fun e w' => e = .returned (.bool true) ∧ Below w.heap.size w w' := by
  obtain ⟨⟨k, u, n⟩, rfl⟩ := op_arg a0
  clear a0
  dsimp only
  have hO := Blk.new w 32 #[.int .i64 k, .string u, .int .i64 n]
  have hW := below_new w (.cells #[.int .i64 k, .string u, .int .i64 n] 32)
  go_enter Try.func7, Try.ntmps7
  go_wp2_with fail
  refine (awake_any _).mono ?_
  rintro e w1 ⟨rfl, hb1⟩
  obtain ⟨hO1, f1, f2, f3⟩ := blk3 hO hb1
  have hb2 := below_step hW hb1
  have HO1 := Lib.hid hO1
  have Hb2 := Lib.hid hb2
  clear hO1 hb2
  clear hO hb1 hW
  go_wp2_with fail
  refine (raise_nil _ _).mono ?_
  rintro e w2 ⟨v, rfl, he, hne, hb⟩
  obtain ⟨hO2, f1, f2, f3⟩ := blk3 HO1.out hb
  have hb3 := below_step Hb2.out hb
  have HO2 := Lib.hid hO2
  have Hb3 := Lib.hid hb3
  have He := Lib.hid he
  clear hO2 hb3 he
  clear hb
  go_wp2_with fail
  refine (learn_nil _ _ _).mono ?_
  rintro e w3 ⟨v3, rfl, he3, hb⟩
  obtain ⟨hO3, f1, f2, f3⟩ := blk3 HO2.out hb
  have hb4 := below_step Hb3.out hb
  have he4 := He.out.below hb
  have HO3 := Lib.hid hO3
  have Hb4 := Lib.hid hb4
  have He3 := Lib.hid he3
  have He4 := Lib.hid he4
  clear hO3 hb4 he3 he4
  clear hb
  go_wp2_with fail
  refine (is_eo _ _ _ _ He4.out).mono ?_
  rintro e w4 ⟨rfl, rfl⟩
  go_wp2_with fail
  refine (is_eo _ _ _ _ He3.out).mono ?_
  rintro e w4 ⟨rfl, rfl⟩
  go_wp2_with fail
  refine (can_nil _ _ _).mono ?_
  rintro e w5 ⟨v5, rfl, he5, hb⟩
  obtain ⟨hO5, f1, f2, f3⟩ := blk3 HO3.out hb
  have hb6 := below_step Hb4.out hb
  have HO5 := Lib.hid hO5
  have Hb6 := Lib.hid hb6
  have He5 := Lib.hid he5
  clear hO5 hb6 he5
  clear hb
  go_wp2_with fail
  refine (is_eo _ _ _ _ He5.out).mono ?_
  rintro e w6 ⟨rfl, rfl⟩
  go_wp2_with fail
  refine (get_nil _ _).mono ?_
  rintro e w6 ⟨rfl, rfl⟩
  go_wp2_with fail
  refine (list_nil _).mono ?_
  rintro e w6 ⟨rfl, rfl⟩
  go_wp2
  go_ret
  exact ⟨rfl, Hb6.out⟩
end Go.Proofs.Ytojmnkcncjconaa.wEpochNone
