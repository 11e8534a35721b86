/- waveletref8.Encode, whole. -/
import Derived.Test.YtnpoakabheeoeaaRaf
import Derived.Test.YtnpoakabheeoeaaRai
import Derived.Deep.CutBlock
import Derived.Laws.ResultCell
namespace Go.Proofs.Ytnpoakabheeoeaa
open Go.RowKit

theorem results_row_tmp {P : Program} {fn : Func} {p u : Tmp} {ty : TypeId} (h : fn.results = #[.cell p ty, .tmp u]) (tmps : Array Value) (w : World) (g : Nat) (t : TypeId) (cs : Array Value) (fr : Nat × Nat) (d : TypeDesc)
    (hp : tmps.getD p undef = .pointer (some ⟨g, 0, none⟩)) (hg : w.heap[g]? = some (.cells cs t fr))
    (hu : P.underlying ty = some d) (hd : (match d with | .struct _ | .array _ _ => true | _ => false) = true) (hi : (P.info? ty).map (·.size) = some cs.size) :
    (results fn tmps).run P w = .ok (.tuple #[.agg cs, tmps.getD u undef]) w := by
  rw [results_cell_tmp h, hp]
  have e : (asAddr (.pointer (some ⟨g, 0, none⟩))).run P w = .ok ⟨g, 0, none⟩ w := rfl
  rw [e, Result.andThen_ok, run_loadVar_row w g t ty cs fr d hg hu hd hi, Result.andThen_ok]
def rB (rb : Nat) : HB := ⟨rb, 38, #[.int .i64 0, .slice none 0 0, .slice none 0 0]⟩
set_option maxRecDepth 100000 in
set_option maxHeartbeats 8000000 in
theorem encode_any (G : GeoM) (v : List Int) (vg vc : Nat) (w0 : World) (hg : G.Ok) (hm : G.mag = v.map Int.natAbs) (hng : G.neg = v.map fun n => oneN (decide (n < 0)))
    (hv : ∀ i m, v[i]? = some m → w0.cell? ⟨vg, i, none⟩ = some (.int .i64 m)) (hvg : vg < w0.heap.size) :
    Calls Try.prog 13 #[.int .i64 (G.w : Int), .int .i64 (G.h : Int), .int .i64 (G.band : Int), .int .i64 (G.style : Int), .slice (some ⟨vg, 0, none⟩) v.length vc] w0 fun e w' =>
      ∃ pv bv Hp Hb, e = .returned (.tuple #[.agg #[.int .i64 ((encodeM G).planes : Int), pv, bv], .int .i64 0]) ∧ RowQ pv (encodeM G).passes Hp ∧ RowB bv (encodeM G).bytes Hb ∧ Mv w0 [] w' (Hp ++ Hb) := by
  have hN : G.w * G.h = v.length := by rw [← hg.mag, hm, List.length_map]
  have hn4 : G.w * G.h ≤ 4096 := Nat.mul_le_mul hg.w2 hg.h2
  have hl1 : G.mag.length = v.length := by rw [hm, List.length_map]
  have hl2 : G.neg.length = v.length := by rw [hng, List.length_map]
  obtain ⟨N, hNN⟩ : ∃ N, v.length = N := ⟨_, rfl⟩
  have MO := Lib.hid (may_ok G.w G.h G.band G.style (w0.alloc (.cells #[.int .i64 0, .slice none 0 0, .slice none 0 0] 38)) ⟨hg.w1, hg.w2⟩ ⟨hg.h1, hg.h2⟩ hg.band hg.style)
  have BG := Lib.hid (fun W => begin_any G hg.w1 hg.w2 hg.h1 hg.h2 W)
  have hw2 := hg.w2
  have hh2 := hg.h2
  rw [hNN] at hN hl1 hl2 ⊢
  have HN := Lib.hid hN
  have HV := Lib.hid (And.intro hv (And.intro hm (And.intro hng hNN)))
  have HG := Lib.hid hg
  have M0 := Lib.hid (mv_alloc w0 38 #[.int .i64 0, .slice none 0 0, .slice none 0 0])
  have hd : Hid ((((N : Nat) : Int) != (G.w : Int) * (G.h : Int)) = false) := Lib.hid (by rw [← hN]; push_cast; simp)
  clear hv hm hng hNN hg hN
  go_enter Try.func13, Try.ntmps13
  go_upto_if 36 with (go_at_call 33; refine MO.out.mono ?_; rintro e w1 ⟨rfl, rfl⟩)
  rw [hd.out]
  obtain ⟨w1, hw1⟩ : ∃ w1, w1 = w0.alloc (.cells #[.int .i64 0, .slice none 0 0, .slice none 0 0] 38) := ⟨_, rfl⟩
  rw [← hw1] at M0
  have HW1 := Lib.hid hw1
  obtain ⟨rb, hrb⟩ : ∃ rb, w0.heap.size = rb := ⟨_, rfl⟩
  rw [hrb] at M0
  rw [← hw1, hrb]
  have M1 : Hid (Mv w0 [] w1 [rB rb]) := M0
  clear hw1 hd M0 MO HW1 hrb
  go_upto_region 6 with (go_at_call 34; refine (BG.out _).mono ?_; rintro e w2 ⟨A, rfl, m2⟩; have K2 := Lib.hid (Mv.call (H := []) M1.out m2); clear m2)
  have m2 : Mv w0 [] w2 (CodF A ⟨G.w, G.h, G.band, G.style, List.replicate N 0, List.replicate N 0⟩ (codNew G) cxFresh (tailP false false (.pointer none) (.pointer none)) ++ [rB rb]) := by
    have := K2.out
    rw [zN_eq, zN_eq, zL_eq, zL_eq, zL_eq, codI_eq, HN.out] at this
    unfold CodF codNew
    simp only [HN.out]
    exact this
  have c47 : w2.cell? ⟨A.cb, 47, none⟩ = some (.bool false) := (codF_at (by rfl) m2 0).1
  have f47 : w2.frozen? ⟨A.cb, 47, none⟩ = false := (codF_at (by rfl) m2 0).2
  have K3 := Lib.hid m2
  clear K2 m2
  have M4 : Mv w0 [] (w2.setCell ⟨A.cb, 47, none⟩ (.bool true)) (codH A G cxFresh (tailP true false (.pointer none) (.pointer none)) :: ([rowN A.gm (List.replicate N 0), rowN A.gn (List.replicate N 0), rowL A.gs (codNew G).sig, rowL A.ge (codNew G).seen, rowL A.ga (codNew G).again] ++ [rB rb])) := by
    have := Mv.set (g := A.cb) (t := 98) (cs := (codT A G cxFresh (tailP false false (.pointer none) (.pointer none))).toArray) K3.out 47 (.bool true)
    rw [show (47 : Nat) = 47 + 0 from rfl, codT_set (by rfl)] at this
    exact this
  obtain ⟨R0, hR0⟩ : ∃ R0, [rowL A.gs (codNew G).sig, rowL A.ge (codNew G).seen, rowL A.ga (codNew G).again, rB rb] = R0 := ⟨_, rfl⟩
  go_upto_region 8 with fail
  have M5 := M4.alloc 38 #[.int .i64 0, .slice none 0 0, .slice none 0 0]
  rw [show (w2.setCell ⟨A.cb, 47, none⟩ (.bool true)).heap.size = w2.heap.size by simp] at M5
  obtain ⟨bb, hbb⟩ : ∃ bb, w2.heap.size = bb := ⟨_, rfl⟩
  rw [hbb] at M5 ⊢
  generalize w2.setCell ⟨A.cb, 47, none⟩ (.bool true) = w3 at *
  obtain ⟨w4, hw4⟩ : ∃ w4, w4 = w3.alloc (.cells #[.int .i64 0, .slice none 0 0, .slice none 0 0] 38) := ⟨_, rfl⟩
  rw [← hw4] at M5 ⊢
  have K5 : Hid (Mv w0 [] w4 (IniH A bb G 0 (planesOf (G.mag.take 0)) R0)) := Lib.hid (by
    rw [← hR0]
    unfold IniH
    rw [midN_zero, midN_zero, hl1, hl2]
    exact M5.sub (fun g => by simp only [bB, nil0, planesOf, List.take_zero, List.foldl_nil, cnt_append, cnt_cons, cnt_nil]; omega) (fun b hb => by
      simp only [List.mem_append, List.mem_cons, List.not_mem_nil, or_false] at hb ⊢
      rcases hb with h | h | h | h | h | h | h | h
      · exact .inr (.inl h)
      · exact .inr (.inr (.inl (.inl h)))
      · exact .inr (.inr (.inl (.inr (.inl h))))
      · exact .inl h
      · grind
      · grind
      · grind
      · grind))
  clear hw4 hbb M5 M4 K3 c47 f47 BG
  have HR0 := Lib.hid hR0
  clear hR0
  go_wp2_with fail
  have PL : Hid (∀ l : List Nat, (∀ m ∈ l, m ∈ G.mag) → planesOf l ≤ 30) := Lib.hid (fun l hl => planesOf_le l 30 (fun m hm => HG.out.magB m (hl m hm)))
  have hNl : N ≤ 4096 := by have := HN.out; omega
  go_loopg [14] N (fun mm s14 wx => ∃ i : Nat, i ≤ N ∧ mm = N - i ∧ s14 = .int .i64 (i : Int) ∧ Mv w0 [] wx (IniH A bb G i (planesOf (G.mag.take i)) R0))
  case atStart => exact ⟨0, Nat.zero_le _, rfl, rfl, K5.out⟩
  case round =>
    obtain ⟨i, hi, rfl, rfl, m⟩ := hrel
    by_cases hlt : i < N
    · have d1 : decide ((i : Int) < (N : Int)) = true := by simp; omega
      have KM := Lib.hid m
      clear m
      obtain ⟨x, hx⟩ : ∃ x, v[i]? = some x := ⟨_, List.getElem?_eq_getElem (by rw [HV.out.2.2.2]; exact hlt)⟩
      have g1 : G.mag[i]? = some x.natAbs := by rw [HV.out.2.1, List.getElem?_map, hx]; rfl
      have g2 : G.neg[i]? = some (oneN (decide (x < 0))) := by rw [HV.out.2.2.1, List.getElem?_map, hx]; rfl
      have g3 : x.natAbs ≤ 1073741823 := by have := HG.out.magB _ (List.mem_of_getElem? g1); omega
      have HX := Lib.hid (And.intro g1 (And.intro g2 (And.intro g3 (HV.out.1 i x hx))))
      clear hx g1 g2 g3
      go_upto_block 1 with fail
      refine wp_piece (enc_p1 _ A bb vg vc N i (planesOf (G.mag.take i)) x.natAbs (oneN (decide (x < 0))) G x R0 w0 wr _ _ _ _ _ _ _ _ _ _ _ _ _ _ _ _ _ _ _ _ _ _ _ _ _ _ _ _ _ _ _ _ _ _ _ _ _ _ _ _ _ _ _ _ _ _ _ _ _ _ _ _ _ _ _ _ _ _ _ _ _ _ _ _ _ _ _ _ _ _ _ _ _ _ _ _ _ _ _ _ _ _ _ _ _ _ _ _ _ _ _ _ _ _ _ _ _ _ _ _ _ _ _ _ _ _ _ _ _ _ _ _ _ _ _ _ _ _ _ _ _ _ _ _ _ _ _ _ _ _ _ _ _ _ _ _ _ _ _ _ _ _ _ _ _ _ _ _ _ _ _ _ _ _ _ _ _ _ _ _ _ _ _ _ _ _ _ _ _ _ _ _ _ _ _ _ _ _ _ _ _ _ _ _ _ _ _ _ _ _ _ _ _ _ _ _ _ _ _ _ _ _ _ _ _ _ _ _ _ _ _ _ _ _ _ _ _ _ _ _ _ _ _ _ _ _ _ _ _ _ _ _ _ _ _ _ _ _ HN.out (by have := HN.out; omega) hlt HX.out.1 HX.out.2.1 rfl rfl HX.out.2.2.1 hl1 hl2 HX.out.2.2.2 hvg (PL.out _ (fun m hm => List.mem_of_mem_take hm)) KM.out ?_)
      rintro _ _ _ _ _ _ _ _ _ _ _ _ _ _ _ _ _ _ _ _ _ _ _ _ _ _ _ _ _ _ _ _ _ _ _ _ _ _ _ _ _ _ _ _ _ _ _ _ _ _ _ _ _ _ _ _ w5 m5
      rw [← planesOf_take _ _ HX.out.1] at m5
      have K6 := Lib.hid m5
      clear m5
      unfold ptr0
      go_wp2_with fail
      go_roundg (N - (i + 1))
      case measure => omega
      case rel => exact ⟨i + 1, by omega, rfl, by push_cast; rfl, K6.out⟩
    · obtain rfl : i = N := by omega
      have d1 : decide ((i : Int) < (i : Int)) = false := by simp
      have ti : G.mag.take i = G.mag := List.take_of_length_le (by omega)
      rw [ti] at m
      obtain ⟨pl, hpl⟩ : ∃ pl, planesOf G.mag = pl := ⟨_, rfl⟩
      rw [hpl] at m
      have pl30 : pl ≤ 30 := by rw [← hpl]; exact PL.out _ (fun m hm => hm)
      obtain ⟨n, hn⟩ : ∃ n, countM pl = n := ⟨_, rfl⟩
      have n88 : n ≤ 88 := by rw [← hn]; unfold countM; omega
      have CA : Hid (∀ W, Calls Try.prog 36 #[.int .i64 (pl : Int)] W fun e w' => e = .returned (.int .i64 (n : Int)) ∧ w' = W) := Lib.hid (fun W => by rw [← hn]; exact count_any pl W (by omega))
      have HPL := Lib.hid (And.intro hpl hn)
      unfold IniH at m
      rw [← HR0.out, show midN G.mag i = G.mag by rw [← hl1]; exact midN_all _, show midN G.neg i = G.neg by rw [← hl2]; exact midN_all _] at m
      have c0 : wr.cell? ⟨bb, 0, none⟩ = some (.int .i64 (pl : Int)) := m.cell 3 rfl 0
      have m1 : Mv w0 [] wr ((CodF A G (codNew G) cxFresh (tailP true false (.pointer none) (.pointer none)) ++ (bB bb pl nil0 nil0 :: ([] ++ []))) ++ [rB rb]) := m.sub (fun g => by simp only [CodF, cnt_append, cnt_cons, cnt_nil]; omega) (fun b hb => by simp only [CodF, List.mem_append, List.mem_cons, List.not_mem_nil, or_false] at hb ⊢; grind)
      have K0 : Hid (BkR A bb G pl (encStart G) 0 (CodF A G (codNew G) cxFresh (tailP true false (.pointer none) (.pointer none)) ++ (bB bb pl nil0 nil0 :: ([] ++ []))) ∧ Mv w0 [] wr ((CodF A G (codNew G) cxFresh (tailP true false (.pointer none) (.pointer none)) ++ (bB bb pl nil0 nil0 :: ([] ++ []))) ++ [rB rb])) := Lib.hid ⟨⟨_, nil0, [], nil0, [], .inl ⟨rfl, false, .pointer none, .pointer none, rfl⟩, RowH.nil _ _, RowH.nil _ _, rfl⟩, m1⟩
      obtain ⟨R, hR⟩ : ∃ R, encRun G pl n n 0 (encStart G) = R := ⟨_, rfl⟩
      have HR := Lib.hid hR
      clear m m1 hpl hn ti hR K5
      go_wp2_with (go_at_call 36; refine (CA.out _).mono ?_; rintro e w6 ⟨rfl, rfl⟩)
      have hg1 := HG.out.h1
      go_loopg [16, 17] n (fun mm s16 s17 wx => ∃ (k : Nat) (t : EncS) (H : List HB), k ≤ n ∧ mm = n - k ∧ s16 = .int .i64 (t.first : Int) ∧ s17 = .int .i64 (k : Int) ∧ t.Ok G k ∧ t.Few (16 * (12 * (G.w * G.h) + 4) + 4) k ∧ encRun G pl n (n - k) k t = R ∧ BkR A bb G pl t k H ∧ Mv w0 [] wx (H ++ [rB rb]))
      case atStart => exact ⟨0, encStart G, _, by omega, rfl, rfl, rfl, encStart_ok G, (by unfold EncS.Few; simp [encStart]), HR.out, K0.out.1, K0.out.2⟩
      case round =>
        obtain ⟨k, t, H, hk, rfl, rfl, rfl, ok, few, run, hb, hm⟩ := hrel
        by_cases hlt : k < n
        · have d1 : decide ((k : Int) < (n : Int)) = true := by simp; omega
          have KT := Lib.hid (And.intro ok (And.intro few (And.intro run (And.intro hb hm))))
          clear ok few run hb hm
          go_upto_block 5 with fail
          refine wp_piece (enc_p5 _ A bb G pl n k t [rB rb] H [] w0 _ _ _ _ _ _ _ _ _ _ _ _ _ _ _ _ _ _ _ _ _ _ _ _ _ _ _ _ _ _ _ _ _ _ _ _ _ _ _ _ _ _ _ _ _ _ _ _ _ _ _ _ _ _ _ _ _ _ _ _ _ _ _ _ _ _ _ _ _ _ _ _ _ _ _ _ _ _ _ _ _ _ _ _ _ _ _ _ _ _ _ _ _ _ _ _ _ _ _ _ _ _ _ _ _ _ _ _ _ _ _ _ _ _ _ _ _ _ _ _ _ _ _ _ _ _ _ _ _ _ _ _ _ _ _ _ _ _ _ _ _ _ _ _ _ _ _ _ _ _ _ _ _ _ _ _ _ _ _ _ _ _ _ _ _ _ _ _ _ _ _ _ _ _ _ _ _ _ _ _ _ _ _ _ _ _ _ _ _ _ _ _ _ _ _ _ _ _ _ _ _ _ _ _ _ _ _ _ _ _ _ _ _ _ _ _ _ _ _ _ _ _ _ _ _ _ _ _ _ _ _ _ _ _ _ _ _ HG.out pl30 hlt HPL.out.2.symm KT.out.1 KT.out.2.1 KT.out.2.2.2.1 KT.out.2.2.2.2 ?_)
          rintro _ _ _ _ _ _ _ _ _ _ _ _ _ _ _ _ _ _ _ _ _ _ _ _ _ _ _ _ _ _ _ _ _ _ _ _ _ _ _ _ _ _ _ _ _ _ _ _ _ _ _ _ _ _ _ _ _ _ _ _ _ _ _ _ _ _ _ _ _ _ _ _ _ _ _ _ _ _ _ _ _ _ _ _ _ _ _ _ _ _ _ _ _ _ _ _ _ _ _ _ _ _ _ _ _ _ _ _ _ _ _ _ _ _ _ _ _ _ _ _ _ _ _ _ _ _ _ _ _ w5 H5 hb5 m5
          have K5 := Lib.hid (And.intro hb5 m5)
          clear hb5 m5
          unfold ptr0
          go_wp2_with fail
          go_roundg (n - (k + 1))
          case measure => omega
          case rel => exact ⟨k + 1, encStep G pl n t k, H5, by omega, rfl, rfl, by push_cast; rfl, encStep_ok hg1 KT.out.1, encStep_few hg1 KT.out.1 _ (Nat.le_refl _) KT.out.2.1, by (have := KT.out.2.2.1; rw [show n - k = (n - (k + 1)) + 1 by omega] at this; exact this), K5.out.1, K5.out.2⟩
        · have d1 : decide ((k : Int) < (n : Int)) = false := by simp; omega
          obtain rfl : k = n := by omega
          rw [Nat.sub_self] at run
          have HT := Lib.hid (show t = R from run)
          obtain ⟨Hc, pv, Hp, bv, Hb, -, hp, hb, rfl⟩ := hb
          obtain ⟨pa, pc, rfl⟩ := hp.slice
          obtain ⟨ba, bc, rfl⟩ := hb.slice
          have m1 : Mv w0 [] wr ([rB rb] ++ (bB bb pl (.slice pa t.passes.length pc) (.slice ba t.bytes.length bc) :: (Hp ++ Hb))) := hm.sub (fun g => by simp only [cnt_append, cnt_cons, cnt_nil]; omega) (fun b hb => by
            rcases List.mem_append.1 hb with h | h
            · exact List.mem_append_right _ h
            · exact List.mem_append_left _ (List.mem_append_right _ h))
          have KP := Lib.hid (And.intro hp hb)
          have K1 := Lib.hid m1
          clear ok few run hp hb hm m1
          obtain ⟨lp, hlp⟩ : ∃ lp, t.passes.length = lp := ⟨_, rfl⟩
          obtain ⟨lb, hlb⟩ : ∃ lb, t.bytes.length = lb := ⟨_, rfl⟩
          rw [hlp, hlb] at K1 KP
          go_upto_region 46 with fail
          refine wp_region_lit ?_
          refine wpList_load_row rfl 38 (.tmp 13) rfl bb rfl 38 #[.int .i64 (pl : Int), .slice pa lp pc, .slice ba lb bc] (0, 0) _ (K1.out.blk 1 (g := bb) (t := 38) (cs := #[.int .i64 (pl : Int), .slice pa lp pc, .slice ba lb bc]) rfl) Try.underlying38 rfl (by kernel_rfl) ?_
          refine wpList_store_row rfl 38 (.tmp 10) (.tmp 241) rfl rb #[.int .i64 (pl : Int), .slice pa lp pc, .slice ba lb bc] rfl rfl 38 _ (K1.out.blk 0 (g := rb) (t := 38) (cs := #[.int .i64 0, .slice none 0 0, .slice none 0 0]) rfl) (by kernel_rfl) rfl (by simp [Value.oneCell']) ?_
          have M9 := Lib.hid (Mv.call K1.out (setRow_eq (cs := #[.int .i64 (pl : Int), .slice pa lp pc, .slice ba lb bc]) (K1.out.blk 0 (g := rb) (t := 38) (cs := #[.int .i64 0, .slice none 0 0, .slice none 0 0]) rfl)))
          generalize wr.setRow rb #[.int .i64 (pl : Int), .slice pa lp pc, .slice ba lb bc] = w9 at *
          go_wp2_with fail
          have EM : encodeM G = ⟨pl, t.passes, t.bytes⟩ := by
            unfold encodeM
            rw [HPL.out.1, HPL.out.2, HR.out, HT.out]
          refine bodyPost_ret (v := .tuple #[.agg #[.int .i64 (pl : Int), .slice pa lp pc, .slice ba lb bc], .int .i64 0]) (results_row_tmp Try.results13 _ _ rb 38 _ (0, 0) _ rfl (M9.out.blk 0 rfl) Try.underlying38 rfl (by kernel_rfl)) rfl ?_
          rw [EM]
          exact ⟨_, _, Hp, Hb, rfl, KP.out.1, KP.out.2, M9.out.drop1.drop1⟩
end Go.Proofs.Ytnpoakabheeoeaa
