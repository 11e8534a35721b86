/- A head whose first bit is 0: read as nothing. A packet of nothing: decoded. -/
import Derived.Test.YtnpoakabheeoeaaMpg
import Derived.Test.YtnpoakabheeoeaaBq
namespace Go.Proofs.Ytnpoakabheeoeaa
open Go.RowKit

theorem results_cell3 {P : Program} {fn : Func} {p q r : Tmp} {tp tq tr : TypeId} (h : fn.results = #[.cell p tp, .cell q tq, .cell r tr]) (tmps : Array Value) (w : World) :
    (results fn tmps).run P w = ((asAddr (tmps.getD p undef)).run P w).andThen fun a w₁ => ((loadVar tp a).run P w₁).andThen fun u w₂ => ((asAddr (tmps.getD q undef)).run P w₂).andThen fun b w₃ => ((loadVar tq b).run P w₃).andThen fun v w₄ =>
      ((asAddr (tmps.getD r undef)).run P w₄).andThen fun c w₅ => ((loadVar tr c).run P w₅).andThen fun x w₆ => .ok (.tuple #[u, v, x]) w₆ := by
  simp only [results, h]
  simp [Sem.run_bind, Result.andThen]
theorem Mv.setNew {w0 w : World} (h : Mv w0 [] w []) {g : Nat} (hg : w0.heap.size ≤ g) (i : Nat) (v : Value) : Mv w0 [] (w.setCell ⟨g, i, none⟩ v) [] := by
  have hgr := only_setCell (World.grownBy.refl w (some g)) (p := ⟨g, i, none⟩) (.inl rfl) v
  exact ⟨Sat.nil _, ⟨hgr.os.trans h.only.os, hgr.tape.trans h.only.tape, hgr.output.trans h.only.output, Nat.le_trans h.only.size hgr.size, fun k hk hn => (hgr.block k (Nat.lt_of_lt_of_le hk h.only.size) (fun e => by simp only [Option.some.injEq] at e; omega)).trans (h.only.block k hk hn)⟩, fun _ h => by cases h⟩
set_option maxRecDepth 100000 in
set_option maxHeartbeats 1000000 in
theorem headed_none (A : Option Addr) (nl cl : Nat) (style layer : Int) (v : Value) (l : List UInt8) (W : World) (hv : BV W v l) (hl : l.length ≤ 1000000) (h0 : (rdBit l rdNew).1 = 0) :
    Calls Try.prog 50 #[.slice A nl cl, .int .i64 style, .int .i64 layer, v] W fun e W' => e = .returned (.tuple #[.slice none 0 0, .int .i64 ((endM l (rdBit l rdNew).2).1 : Int), .int .i64 ((endM l (rdBit l rdNew).2).2 : Int)]) ∧ Mv W [] W' [] := by
  have HV := Lib.hid hv
  obtain ⟨a, c, rfl, hv'⟩ := hv
  obtain ⟨n, hn⟩ : ∃ n, l.length = n := ⟨_, rfl⟩
  rw [hn] at HV ⊢
  clear hv' hn
  go_enter Try.func50, Try.ntmps50
  go_upto_region 1 with fail
  have M1 := (((((Mv.refl (Sat.nil W)).alloc 3 #[.int .i64 style]).alloc 3 #[.int .i64 layer]).alloc 111 #[.slice none 0 0]).alloc 3 #[.int .i64 0]).alloc 50 #[.int .i64 0]
  obtain ⟨w1, hw1⟩ : ∃ w1, w1 = (((((W.alloc (.cells #[.int .i64 style] 3)).alloc (.cells #[.int .i64 layer] 3)).alloc (.cells #[.slice none 0 0] 111)).alloc (.cells #[.int .i64 0] 3)).alloc (.cells #[.int .i64 0] 50)) := ⟨_, rfl⟩
  simp only [World.size_alloc, ← hw1] at M1
  simp only [← hw1]
  have B1 := Lib.hid (HV.out.keep (M1.below0))
  have NR := Lib.hid (new_reader _ l w1 B1.out (by omega))
  obtain ⟨LX, hLX⟩ : ∃ LX : List HB, LX = [⟨W.heap.size + 1 + 1 + 1 + 1, 50, #[.int .i64 0]⟩, ⟨W.heap.size + 1 + 1 + 1, 3, #[.int .i64 0]⟩, ⟨W.heap.size + 1 + 1, 111, #[.slice none 0 0]⟩, ⟨W.heap.size + 1, 3, #[.int .i64 layer]⟩, ⟨W.heap.size, 3, #[.int .i64 style]⟩] := ⟨_, rfl⟩
  rw [← hLX] at M1
  have FB : Hid (∀ rb w2 HR, ReadH rb l rdNew HR → Mv w1 [] w2 HR → Calls Try.prog 74 #[.pointer (some ⟨rb, 0, none⟩)] (w2.alloc (.cells #[.pointer (some ⟨rb, 0, none⟩)] 153)) fun e w4 => e = .returned (.int .i64 0) ∧ ∃ HR', Hid (ReadH rb l (rdBit l rdNew).2 HR' ∧ Mv W [] w4 (HR' ++ (⟨w2.heap.size, 153, #[.pointer (some ⟨rb, 0, none⟩)]⟩ :: LX))) ∧ w4.cell? ⟨w2.heap.size, 0, none⟩ = some (.pointer (some ⟨rb, 0, none⟩))) := Lib.hid (by
    intro rb w2 HR h2 m2
    have m3 : Mv W [] w2 (HR ++ LX) := Mv.call (H := []) (R := LX) M1 m2
    have m4 : Mv W [] _ (HR ++ (⟨w2.heap.size, 153, #[.pointer (some ⟨rb, 0, none⟩)]⟩ :: LX)) := (m3.alloc 153 #[.pointer (some ⟨rb, 0, none⟩)]).sub (fun g => by simp only [cnt_append, cnt_cons]; omega) (fun c hc => by simp only [List.mem_append, List.mem_cons] at hc ⊢; grind)
    refine (bit_rd rb l rdNew _ HR h2 m4.sat.left (by omega) (by simp [rdNew]) (by simp [rdNew])).mono ?_
    rintro e w4 ⟨rfl, HR', h5, m5⟩
    have m6 := Mv.call m4 m5
    exact ⟨by rw [h0]; rfl, HR', Lib.hid ⟨h5, m6⟩, (Mv.blkm m6 (List.mem_append_right _ List.mem_cons_self)).cell 0⟩)
  have hbg : (rdBit l rdNew).2.begun ≤ 10 := by by_cases h : prevB l 0 = 255 <;> simp [rdBit, rdNext, rdNew, h]
  have FE : Hid (∀ rb w4 HR bb, ReadH rb l (rdBit l rdNew).2 HR → Mv W [] w4 (HR ++ (⟨bb, 153, #[.pointer (some ⟨rb, 0, none⟩)]⟩ :: LX)) → Calls Try.prog 77 #[.pointer (some ⟨rb, 0, none⟩)] w4 fun e w5 => e = .returned (.tuple #[.int .i64 ((endM l (rdBit l rdNew).2).1 : Int), .int .i64 ((endM l (rdBit l rdNew).2).2 : Int)]) ∧
      Hid (Mv W [] w5 LX) ∧ w5.cell? ⟨W.heap.size + 1 + 1, 0, none⟩ = some (.slice none 0 0) ∧ w5.frozen? ⟨W.heap.size + 1 + 1, 0, none⟩ = false ∧ w5.cell? ⟨W.heap.size + 1 + 1 + 1, 0, none⟩ = some (.int .i64 0) ∧ w5.frozen? ⟨W.heap.size + 1 + 1 + 1, 0, none⟩ = false ∧ w5.cell? ⟨W.heap.size + 1 + 1 + 1 + 1, 0, none⟩ = some (.int .i64 0) ∧ w5.frozen? ⟨W.heap.size + 1 + 1 + 1 + 1, 0, none⟩ = false) := Lib.hid (by
    intro rb w4 HR bb h5 m5
    refine (end_rd rb l _ w4 HR h5 m5.sat.left (by omega) (by omega)).mono ?_
    rintro e w5 ⟨rfl, k, rfl⟩
    have m6 : Mv W [] (w4.drewN k) LX := (Mv.drop (m5.drewN k)).drop1
    have a8 := Mv.blkm m6 (x := ⟨W.heap.size + 1 + 1, 111, #[.slice none 0 0]⟩) (by rw [hLX]; simp)
    have a9 := Mv.blkm m6 (x := ⟨W.heap.size + 1 + 1 + 1, 3, #[.int .i64 0]⟩) (by rw [hLX]; simp)
    have a10 := Mv.blkm m6 (x := ⟨W.heap.size + 1 + 1 + 1 + 1, 50, #[.int .i64 0]⟩) (by rw [hLX]; simp)
    exact ⟨rfl, Lib.hid m6, a8.cell 0, a8.frozen 0, a9.cell 0, a9.frozen 0, a10.cell 0, a10.frozen 0⟩)
  have K1 := Lib.hid M1
  have KL := Lib.hid hLX
  clear M1 hw1 hLX hbg h0
  go_wp2_with (first | (go_at_call 73; refine NR.out.mono ?_; rintro e w2 ⟨rb, HR, rfl, h2, m2⟩; have C2 := Lib.hid (FB.out rb w2 HR h2 m2); clear h2 m2) | (go_at_call 74; refine C2.out.mono ?_; rintro e w4 ⟨rfl, HR', K4, d0⟩; have C4 := Lib.hid (FE.out rb w4 HR' _ K4.out.1 K4.out.2)) | (go_at_call 77; refine C4.out.mono ?_; rintro e w5 ⟨rfl, K5, a8, f8, a9, f9, a10, f10⟩))
  have M6 : Hid (Mv W [] w5 []) := Lib.hid (K5.out.sub (fun g => by rw [cnt_nil]; omega) (fun b hb => by cases hb))
  go_region
  have M7 := Lib.hid (Mv.drew (Mv.setNew (Mv.setNew (Mv.setNew (Mv.setNew (Mv.setNew M6.out (g := W.heap.size + 1 + 1 + 1) (by omega) 0 (.int .i64 ((endM l (rdBit l rdNew).2).1 : Int))) (g := W.heap.size + 1 + 1 + 1 + 1) (by omega) 0 (.int .i64 ((endM l (rdBit l rdNew).2).2 : Int))) (g := W.heap.size + 1 + 1) (by omega) 0 (.slice none 0 0)) (g := W.heap.size + 1 + 1 + 1) (by omega) 0 (.int .i64 ((endM l (rdBit l rdNew).2).1 : Int))) (g := W.heap.size + 1 + 1 + 1 + 1) (by omega) 0 (.int .i64 ((endM l (rdBit l rdNew).2).2 : Int))))
  go_wp2_with fail
  refine bodyPost_ret (v := .tuple #[.slice none 0 0, .int .i64 ((endM l (rdBit l rdNew).2).1 : Int), .int .i64 ((endM l (rdBit l rdNew).2).2 : Int)]) ?_ rfl ⟨rfl, M7.out⟩
  rw [results_cell3 (p := 8) (q := 9) (r := 10) (tp := 111) (tq := 3) (tr := 50) rfl]
  have z10 : ∀ (V : World) (v : Value), (V.cell? ⟨W.heap.size + 1 + 1 + 1 + 1, 0, none⟩).isSome = true → (V.setCell ⟨W.heap.size + 1 + 1 + 1 + 1, 0, none⟩ v).cell? ⟨W.heap.size + 1 + 1 + 1 + 1, 0, none⟩ = some v := fun V v h => World.cell?_setCell_same' _ _ _ h
  go_simp
  rw [z10 _ _ (by go_simp)]
  all_goals go_simp
end Go.Proofs.Ytnpoakabheeoeaa
namespace Go.Proofs.Ytnpoakabheeoeaa
open Go.RowKit

set_option maxRecDepth 100000 in
theorem marked_none (A : Option Addr) (n c : Nat) (w : World) : Calls Try.prog 51 #[.slice A n c, .bool false] w fun e w' => e = .returned (.tuple #[.int .i64 0, .int .i64 0]) ∧ w' = w := by
  go_enter Try.func51, Try.ntmps51
  go_wp2_with fail
  go_ret2
  exact ⟨rfl, rfl⟩
set_option maxRecDepth 100000 in
set_option maxHeartbeats 1000000 in
theorem decode_none (A : Option Addr) (nl cl : Nat) (style layer : Int) (v : Value) (l : List UInt8) (n : Nat) (W : World) (hv : BV W v l) (hl : l.length ≤ 1000000) (h0 : (rdBit l rdNew).1 = 0) (hE : endM l (rdBit l rdNew).2 = (n, 0)) (hn : n ≤ l.length) :
    Calls Try.prog 18 #[.slice A nl cl, .int .i64 style, .int .i64 layer, v, .bool false] W fun e W' => e = .returned (.tuple #[.int .i64 (n : Int), .int .i64 0]) ∧ Mv W [] W' [] := by
  have HD := Lib.hid (headed_none A nl cl style layer v l W hv hl h0)
  rw [hE] at HD
  obtain ⟨a, c, rfl, hc, hcm, -⟩ := hv
  obtain ⟨m, hm⟩ : ∃ m, l.length = m := ⟨_, rfl⟩
  rw [hm] at HD hn hl hc ⊢
  have MN := Lib.hid (marked_none)
  clear h0 hE hm
  go_enter Try.func18, Try.ntmps18
  go_wp2_with (first | (go_at_call 50; refine HD.out.mono ?_; rintro e w2 ⟨rfl, m2⟩; have K2 := Lib.hid m2; clear m2) | (go_at_call 51; refine (MN.out _ _ _ _).mono ?_; rintro e w3 ⟨rfl, rfl⟩))
  all_goals
    go_loopg [10, 44] 0 (fun m s10 s44 wx => m = 0 ∧ s10 = .int .i64 (n : Int) ∧ s44 = .int .i64 0 ∧ Mv W [] wx [])
    case atStart => exact ⟨rfl, by go_num, rfl, K2.out⟩
    case round =>
      obtain ⟨rfl, rfl, rfl, mr⟩ := hrel
      have KR := Lib.hid mr
      clear mr
      go_wp2_with fail
      go_ret2
      exact ⟨rfl, KR.out⟩
end Go.Proofs.Ytnpoakabheeoeaa
