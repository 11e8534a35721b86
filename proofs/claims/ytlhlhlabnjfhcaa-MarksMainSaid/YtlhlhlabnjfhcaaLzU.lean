/- MarksTwice: its comparison of two heads, as a piece. -/
import Derived.Test.YtlhlhlabnjfhcaaFmN
import Derived.Test.YtlhlhlabnjfhcaaMs
namespace Go.Proofs.Ytlhlhlabnjfhcaa
open Go.RowKit

theorem wpList_load_row_want {P : Program} {ops : Array Oper} {rest : List Oper} {o : Oper} {a : Act} {w : World} {Q : Exit → Act → World → Prop} (hw : Region.wanted o (yielded ops a.tmps) = true) (ty : TypeId) (x : Operand) (ho : o.op = .load ty x)
    (g : Nat) (hx : a.eval x = .pointer (some ⟨g, 0, none⟩)) (t : TypeId) (cs : Array Value) (fr : Nat × Nat) (d : TypeDesc) (hg : w.heap[g]? = some (.cells cs t fr))
    (hu : P.underlying ty = some d) (hd : (match d with | .struct _ | .array _ _ => true | _ => false) = true) (hi : (P.info? ty).map (·.size) = some cs.size)
    (h : wpList P ops Q rest (a.put o.dst (.agg cs)) w) : wpList P ops Q (o :: rest) a w :=
  BigFrame.wpList_want hw fun _ hK => wp_load_row ty x ho g hx t cs fr d hg hu hd hi (hK _ _ h)

set_option maxRecDepth 100000 in
set_option maxHeartbeats 4000000 in
theorem twice_r17 (K : Act → World → Prop) (gb hb N sc : Nat) (sa : Option Addr) (w : World) (s0 s1 s2 s3 s4 s7 s8 s9 s10 s11 s12 s13 s14 s15 s16 s20 s21 s22 s23 s24 s25 s26 s27 s28 s29 s30 s31 s32 s33 s34 s35 s36 s37 s38 s39 s40 s41 s42 s43 s44 s45 s46 s47 s48 s49 s50 s51 s52 s53 s54 s55 s56 s57 s58 s59 s60 s61 s62 s63 s64 s65 s66 s67 s68 s69 s70 s71 s72 s73 s74 s75 s76 s77 s78 s79 s80 s81 s82 s83 s84 s85 s86 s87 s88 s89 s90 s91 s92 s93 s94 s95 s96 s97 s98 s99 s100 s101 s102 s103 s104 s105 s106 s107 s108 s109 s110 s111 s112 s113 s114 s115 s116 s117 s118 s119 s120 : Value) (a0 a1 a2 a3 a4 a5 a6 a7 a8 a9 a10 a11 a12 a13 a14 a15 a16 a17 b0 b1 b2 b3 b4 b5 b6 b7 b8 b9 b10 b11 b12 b13 b14 b15 b16 b17 : Value) (h1 : Blk w gb 33 #[a0, a1, a2, a3, a4, a5, a6, a7, a8, a9, a10, a11, a12, a13, a14, a15, a16, a17]) (h2 : Blk w hb 33 #[b0, b1, b2, b3, b4, b5, b6, b7, b8, b9, b10, b11, b12, b13, b14, b15, b16, b17])
    (hs : Calls Try.prog 17 #[.agg #[a0, a1, a2, a3, a4, a5, a6, a7, a8, a9, a10, a11, a12, a13, a14, a15, a16, a17], .agg #[b0, b1, b2, b3, b4, b5, b6, b7, b8, b9, b10, b11, b12, b13, b14, b15, b16, b17]] w fun e w' => e = .returned (.bool true) ∧ Below w.heap.size w w')
    (hk : ∀ (t102 t103 t104 t105 t106 t107 t108 t109 t110 t111 t112 t113 t114 : Value) (wx : World), Below w.heap.size w wx → K ⟨List.toArray (s0 :: s1 :: s2 :: s3 :: (.bool true) :: (.pointer (some ⟨hb, 0, none⟩)) :: (.slice sa N sc) :: s7 :: s8 :: s9 :: s10 :: s11 :: s12 :: s13 :: s14 :: s15 :: s16 :: (.pointer (some ⟨gb, 0, none⟩)) :: (.int .i64 N) :: (.int .i64 0) :: s20 :: s21 :: s22 :: s23 :: s24 :: s25 :: s26 :: s27 :: s28 :: s29 :: s30 :: s31 :: s32 :: s33 :: s34 :: s35 :: s36 :: s37 :: s38 :: s39 :: s40 :: s41 :: s42 :: s43 :: s44 :: s45 :: s46 :: s47 :: s48 :: s49 :: s50 :: s51 :: s52 :: s53 :: s54 :: s55 :: s56 :: s57 :: s58 :: s59 :: s60 :: s61 :: s62 :: s63 :: s64 :: s65 :: s66 :: s67 :: s68 :: s69 :: s70 :: s71 :: s72 :: s73 :: s74 :: s75 :: s76 :: s77 :: s78 :: s79 :: s80 :: s81 :: s82 :: s83 :: s84 :: s85 :: s86 :: s87 :: s88 :: s89 :: s90 :: s91 :: s92 :: s93 :: s94 :: s95 :: s96 :: s97 :: s98 :: s99 :: s100 :: s101 :: t102 :: t103 :: t104 :: t105 :: t106 :: t107 :: t108 :: t109 :: t110 :: t111 :: t112 :: t113 :: t114 :: s115 :: s116 :: s117 :: s118 :: s119 :: s120 :: []), []⟩ wx) :
    (regionOf 17 Try.f10).wp Try.prog (Exit.then K noQ) ⟨List.toArray (s0 :: s1 :: s2 :: s3 :: s4 :: (.pointer (some ⟨hb, 0, none⟩)) :: (.slice sa N sc) :: s7 :: s8 :: s9 :: s10 :: s11 :: s12 :: s13 :: s14 :: s15 :: s16 :: (.pointer (some ⟨gb, 0, none⟩)) :: (.int .i64 N) :: (.int .i64 0) :: s20 :: s21 :: s22 :: s23 :: s24 :: s25 :: s26 :: s27 :: s28 :: s29 :: s30 :: s31 :: s32 :: s33 :: s34 :: s35 :: s36 :: s37 :: s38 :: s39 :: s40 :: s41 :: s42 :: s43 :: s44 :: s45 :: s46 :: s47 :: s48 :: s49 :: s50 :: s51 :: s52 :: s53 :: s54 :: s55 :: s56 :: s57 :: s58 :: s59 :: s60 :: s61 :: s62 :: s63 :: s64 :: s65 :: s66 :: s67 :: s68 :: s69 :: s70 :: s71 :: s72 :: s73 :: s74 :: s75 :: s76 :: s77 :: s78 :: s79 :: s80 :: s81 :: s82 :: s83 :: s84 :: s85 :: s86 :: s87 :: s88 :: s89 :: s90 :: s91 :: s92 :: s93 :: s94 :: s95 :: s96 :: s97 :: s98 :: s99 :: s100 :: s101 :: s102 :: s103 :: s104 :: s105 :: s106 :: s107 :: s108 :: s109 :: s110 :: s111 :: s112 :: s113 :: s114 :: s115 :: s116 :: s117 :: s118 :: s119 :: s120 :: []), []⟩ w := by
  conv in (regionOf _ _) => whnf
  unfold noQ
  have HK := Lib.hid hk
  have HS := Lib.hid hs
  clear hk hs
  have H1 := Lib.hid h1
  have H2 := Lib.hid h2
  clear h1 h2
  iterate 25 go_step
  refine wpList_load_row_want (by rfl) 33 (.tmp 17) rfl gb rfl 33 #[a0, a1, a2, a3, a4, a5, a6, a7, a8, a9, a10, a11, a12, a13, a14, a15, a16, a17] (0, 0) _ H1.out Try.underlying33 rfl (by kernel_rfl) ?_
  refine wpList_load_row_want (by rfl) 33 (.tmp 5) rfl hb rfl 33 #[b0, b1, b2, b3, b4, b5, b6, b7, b8, b9, b10, b11, b12, b13, b14, b15, b16, b17] (0, 0) _ H2.out Try.underlying33 rfl (by kernel_rfl) ?_
  go_wp2_with (go_at_call 17; refine HS.out.mono ?_; rintro e w10 ⟨rfl, hB10⟩)
  exact HK.out _ _ _ _ _ _ _ _ _ _ _ _ _ _ hB10
end Go.Proofs.Ytlhlhlabnjfhcaa
