/- A packet of nothing: decoded. -/
import Derived.Test.YtnpoakabheeoeaaPi
namespace Go.Proofs.Ytnpoakabheeoeaa
open Go.RowKit

set_option maxRecDepth 100000 in
theorem marked_none (A : Option Addr) (n c : Nat) (w : World) : Calls Try.prog 51 #[.slice A n c, .bool false] w fun e w' => e = .returned (.tuple #[.int .i64 0, .int .i64 0]) ∧ w' = w := by
  go_enter Try.func51, Try.ntmps51
  go_wp2_with fail
  go_ret2
  exact ⟨rfl, rfl⟩
set_option maxRecDepth 100000 in
set_option maxHeartbeats 1000000 in
theorem decode_none (A : Option Addr) (nl cl : Nat) (style layer : Int) (v : Value) (l : List UInt8) (n : Nat) (W : World) (hv : BV W v l) (hl : l.length ≤ 1000000) (h0 : (rdBit l rdNew).1 = 0) (hE : endM l (rdBit l rdNew).2 = (n, 0)) (hn : n ≤ l.length) :
    Calls Try.prog 18 #[.slice A nl cl, .int .i64 style, .int .i64 layer, v, .bool false] W fun e W' => e = .returned (.tuple #[.int .i64 (n : Int), .int .i64 0]) ∧ Mv W [] W' [] := by
  have HD := Lib.hid (headed_none A nl cl style layer v l W hv hl h0)
  rw [hE] at HD
  obtain ⟨a, c, rfl, hc, hcm, -⟩ := hv
  obtain ⟨m, hm⟩ : ∃ m, l.length = m := ⟨_, rfl⟩
  rw [hm] at HD hn hl hc ⊢
  have MN := Lib.hid (marked_none)
  clear h0 hE hm
  go_enter Try.func18, Try.ntmps18
  go_wp2_with (first | (go_at_call 50; refine HD.out.mono ?_; rintro e w2 ⟨rfl, m2⟩; have K2 := Lib.hid m2; clear m2) | (go_at_call 51; refine (MN.out _ _ _ _).mono ?_; rintro e w3 ⟨rfl, rfl⟩))
  all_goals
    go_loopg [10, 44] 0 (fun m s10 s44 wx => m = 0 ∧ s10 = .int .i64 (n : Int) ∧ s44 = .int .i64 0 ∧ Mv W [] wx [])
    case atStart => exact ⟨rfl, by go_num, rfl, K2.out⟩
    case round =>
      obtain ⟨rfl, rfl, rfl, mr⟩ := hrel
      have KR := Lib.hid mr
      clear mr
      go_wp2_with fail
      go_ret2
      exact ⟨rfl, KR.out⟩
end Go.Proofs.Ytnpoakabheeoeaa
