/- The laws' Form, Make: the loop that lays a component's samples. -/
import Derived.Test.YtlhlhlabnjfhcaaFmT
namespace Go.Proofs.Ytlhlhlabnjfhcaa
open Go.RowKit

/-- a function's block, by its number -/
def getBlock (n : Nat) : Code → Option Code
  | .block i b => if i == n then some (.block i b) else getBlock n b
  | .seq a b => (getBlock n a).or (getBlock n b)
  | .cond _ a b => (getBlock n a).or (getBlock n b)
  | .loop b => getBlock n b
  | .scope b => getBlock n b
  | _ => none
def blockOf (n : Nat) (f : Func) : Code := ((f.body.bind (getBlock n))).getD .skip

def noQ : Exit → Act → World → Prop := fun _ _ _ => False
/-- a piece that only goes on: whatever the other exits ask -/
theorem wp_piece {P : Program} {c : Code} {K : Act → World → Prop} {Q : Exit → Act → World → Prop} {a : Act} {w : World} (h : c.wp P (Exit.then K noQ) a w) : c.wp P (Exit.then K Q) a w := by
  refine wp_mono h ?_
  intro e a' w' hq
  cases e with
  | normal => exact hq
  | _ => exact hq.elim

theorem heap_da (wr : World) (n : Nat) (o : Obj) (b : Nat) (hb : b < wr.heap.size) : ((wr.drewN n).alloc o).heap[b]? = wr.heap[b]? := Below.heap_alloc (wr.drewN n) o b hb
theorem only_thenO {w w' w'' : World} {p : Nat} {row : Option Nat} (h : w.grownBy w' (some p)) (h2 : w'.grownBy w'' row) (hg : ∀ g, row = some g → w.heap.size ≤ g) : w.grownBy w'' (some p) :=
  ⟨h2.os.trans h.os, h2.tape.trans h.tape, h2.output.trans h.output, Nat.le_trans h.size h2.size, fun i hi hne => (h2.block i (Nat.lt_of_lt_of_le hi h.size) (by intro e; have := hg i e.symm; omega)).trans (h.block i hi hne)⟩
theorem grown_step {wR wr w6 : World} {zb n : Nat} {o : Obj} {row : Option Nat} (h : wR.grownBy wr (some zb)) (hg : ((wr.drewN n).alloc o).grownBy w6 row) (hr : ∀ k, row = some k → wR.heap.size ≤ k) : wR.grownBy w6 (some zb) := by
  refine ⟨hg.os.trans h.os, hg.tape.trans h.tape, hg.output.trans h.output, ?_, fun k hk hn => ?_⟩
  · have h1 := h.size
    have h2 := hg.size
    simp at h2
    omega
  · have h1 := h.size
    rw [hg.block k (by simp; omega) (fun e => by have := hr k e.symm; omega), heap_da wr n o k (by omega)]
    exact h.block k hk hn
theorem Try.info3 : (Try.prog.info? 3).map (fun i => (i.zero, i.size, i.bytes)) = some (some (.int .i64 0), 1, 8) := by kernel_rfl

set_option maxRecDepth 100000 in
set_option maxHeartbeats 4000000 in
theorem make_data (K : Act → World → Prop) (fb xb vc r : Nat) (nl : List Int) (va : Option Addr) (dp dx dy lo hi : Int) (sg : Bool) (w0 w : World)
    (s0 s1 s3 s4 s5 s6 s7 s8 s9 s10 s16 s17 s18 s19 s20 s21 s22 s23 s24 s25 s26 s27 s28 s29 s30 s31 s32 s33 s34 s35 s36 s37 s38 s39 s40 s41 s42 s43 s44 s45 s46 s47 s48 s49 s50 s51 s52 s53 s54 s55 s56 s57 s58 s59 s60 s61 s62 s63 s64 s65 s66 s67 s68 s69 s70 s71 s72 s73 s74 s75 s76 s77 s78 s79 s80 s81 s82 s83 s84 s85 s86 s87 s88 s89 s90 s91 s92 s93 s94 s95 s96 s97 s98 s99 s100 s101 s102 s103 s104 s105 s106 s107 s108 s109 s110 s111 s112 s113 s114 s115 s116 s117 s118 s119 s120 s121 s122 s123 s124 s125 s126 s127 s128 s129 s130 s131 s132 s133 s134 s135 s136 s137 s138 s139 s140 s141 s142 s143 s144 s145 s146 s147 s148 s149 s150 s151 s152 s153 s154 s155 s156 s157 s158 s159 s160 s161 s162 s163 s164 s165 s166 s167 s168 s169 s170 s171 s172 s173 s174 s175 s176 s177 s178 s179 s180 s181 s182 s183 s184 s185 s186 s187 s188 s189 s190 s191 s192 s193 s194 s195 s196 s197 s198 s199 s200 s201 s202 s203 s204 s205 s206 s207 s208 s209 s210 s211 s212 s213 s214 s215 s216 s217 s218 s219 s220 s221 s222 s223 s224 s225 : Value) (hn : RdI w0 (.slice va nl.length vc) nl) (h0 : Below w0.heap.size w0 w) (h0x : w0.heap.size ≤ xb) (hfb : fb < xb) (hf : w.cell? ⟨fb, 20, none⟩ = some (.slice va nl.length vc))
    (hx : Blk w xb 45 #[.int .i64 dp, .bool sg, .int .i64 dx, .int .i64 dy, .slice none 0 0]) (hl1 : -32768 ≤ lo) (hl2 : lo ≤ hi) (hl3 : hi ≤ 65535) (hr : r ≤ 4096)
    (hk : ∀ (t15 t16 t163 t164 t165 t166 t167 t168 t169 t170 t171 t172 t173 t174 t175 t176 t177 t178 t179 t180 t181 t182 t183 t184 t185 t186 t187 t188 t189 t190 t191 t192 t193 t194 t195 t196 t197 t198 t199 t200 t201 t202 t203 t204 dv : Value) (data : List Int) (wx : World), Blk wx xb 45 #[.int .i64 dp, .bool sg, .int .i64 dx, .int .i64 dy, dv] → wx.ownsRow w.heap.size 3 1 dv r (data.map (Value.int .i64)) → data.length = r →
      (∀ x ∈ data, lo ≤ x ∧ x ≤ hi) → w.grownBy wx (some xb) → K ⟨List.toArray (s0 :: s1 :: (.pointer (some ⟨fb, 0, none⟩)) :: s3 :: s4 :: s5 :: s6 :: s7 :: s8 :: s9 :: s10 :: (.pointer (some ⟨xb, 0, none⟩)) :: (.int .i64 lo) :: (.int .i64 hi) :: (.int .i64 r) :: t15 :: t16 :: s17 :: s18 :: s19 :: s20 :: s21 :: s22 :: s23 :: s24 :: s25 :: s26 :: s27 :: s28 :: s29 :: s30 :: s31 :: s32 :: s33 :: s34 :: s35 :: s36 :: s37 :: s38 :: s39 :: s40 :: s41 :: s42 :: s43 :: s44 :: s45 :: s46 :: s47 :: s48 :: s49 :: s50 :: s51 :: s52 :: s53 :: s54 :: s55 :: s56 :: s57 :: s58 :: s59 :: s60 :: s61 :: s62 :: s63 :: s64 :: s65 :: s66 :: s67 :: s68 :: s69 :: s70 :: s71 :: s72 :: s73 :: s74 :: s75 :: s76 :: s77 :: s78 :: s79 :: s80 :: s81 :: s82 :: s83 :: s84 :: s85 :: s86 :: s87 :: s88 :: s89 :: s90 :: s91 :: s92 :: s93 :: s94 :: s95 :: s96 :: s97 :: s98 :: s99 :: s100 :: s101 :: s102 :: s103 :: s104 :: s105 :: s106 :: s107 :: s108 :: s109 :: s110 :: s111 :: s112 :: s113 :: s114 :: s115 :: s116 :: s117 :: s118 :: s119 :: s120 :: s121 :: s122 :: s123 :: s124 :: s125 :: s126 :: s127 :: s128 :: s129 :: s130 :: s131 :: s132 :: s133 :: s134 :: s135 :: s136 :: s137 :: s138 :: s139 :: s140 :: s141 :: s142 :: s143 :: s144 :: s145 :: s146 :: s147 :: s148 :: s149 :: s150 :: s151 :: s152 :: s153 :: s154 :: s155 :: s156 :: s157 :: s158 :: s159 :: s160 :: s161 :: s162 :: t163 :: t164 :: t165 :: t166 :: t167 :: t168 :: t169 :: t170 :: t171 :: t172 :: t173 :: t174 :: t175 :: t176 :: t177 :: t178 :: t179 :: t180 :: t181 :: t182 :: t183 :: t184 :: t185 :: t186 :: t187 :: t188 :: t189 :: t190 :: t191 :: t192 :: t193 :: t194 :: t195 :: t196 :: t197 :: t198 :: t199 :: t200 :: t201 :: t202 :: t203 :: t204 :: s205 :: s206 :: s207 :: s208 :: s209 :: s210 :: s211 :: s212 :: s213 :: s214 :: s215 :: s216 :: s217 :: s218 :: s219 :: s220 :: s221 :: s222 :: s223 :: s224 :: s225 :: []), []⟩ wx) :
    (blockOf 4 Try.f20).wp Try.prog (Exit.then K noQ) ⟨List.toArray (s0 :: s1 :: (.pointer (some ⟨fb, 0, none⟩)) :: s3 :: s4 :: s5 :: s6 :: s7 :: s8 :: s9 :: s10 :: (.pointer (some ⟨xb, 0, none⟩)) :: (.int .i64 lo) :: (.int .i64 hi) :: (.int .i64 r) :: (.int .i64 0) :: s16 :: s17 :: s18 :: s19 :: s20 :: s21 :: s22 :: s23 :: s24 :: s25 :: s26 :: s27 :: s28 :: s29 :: s30 :: s31 :: s32 :: s33 :: s34 :: s35 :: s36 :: s37 :: s38 :: s39 :: s40 :: s41 :: s42 :: s43 :: s44 :: s45 :: s46 :: s47 :: s48 :: s49 :: s50 :: s51 :: s52 :: s53 :: s54 :: s55 :: s56 :: s57 :: s58 :: s59 :: s60 :: s61 :: s62 :: s63 :: s64 :: s65 :: s66 :: s67 :: s68 :: s69 :: s70 :: s71 :: s72 :: s73 :: s74 :: s75 :: s76 :: s77 :: s78 :: s79 :: s80 :: s81 :: s82 :: s83 :: s84 :: s85 :: s86 :: s87 :: s88 :: s89 :: s90 :: s91 :: s92 :: s93 :: s94 :: s95 :: s96 :: s97 :: s98 :: s99 :: s100 :: s101 :: s102 :: s103 :: s104 :: s105 :: s106 :: s107 :: s108 :: s109 :: s110 :: s111 :: s112 :: s113 :: s114 :: s115 :: s116 :: s117 :: s118 :: s119 :: s120 :: s121 :: s122 :: s123 :: s124 :: s125 :: s126 :: s127 :: s128 :: s129 :: s130 :: s131 :: s132 :: s133 :: s134 :: s135 :: s136 :: s137 :: s138 :: s139 :: s140 :: s141 :: s142 :: s143 :: s144 :: s145 :: s146 :: s147 :: s148 :: s149 :: s150 :: s151 :: s152 :: s153 :: s154 :: s155 :: s156 :: s157 :: s158 :: s159 :: s160 :: s161 :: s162 :: s163 :: s164 :: s165 :: s166 :: s167 :: s168 :: s169 :: s170 :: s171 :: s172 :: s173 :: s174 :: s175 :: s176 :: s177 :: s178 :: s179 :: s180 :: s181 :: s182 :: s183 :: s184 :: s185 :: s186 :: s187 :: s188 :: s189 :: s190 :: s191 :: s192 :: s193 :: s194 :: s195 :: s196 :: s197 :: s198 :: s199 :: s200 :: s201 :: s202 :: s203 :: s204 :: s205 :: s206 :: s207 :: s208 :: s209 :: s210 :: s211 :: s212 :: s213 :: s214 :: s215 :: s216 :: s217 :: s218 :: s219 :: s220 :: s221 :: s222 :: s223 :: s224 :: s225 :: []), []⟩ w := by
  conv in (blockOf _ _) => whnf
  unfold noQ
  have HK := Lib.hid hk
  clear hk
  have hxlt := hx.lt
  obtain ⟨i0, hti, hz0, hz1, hz2⟩ := info_parts Try.info3
  go_wp2_with fail
  go_loopg [15] r (fun g s15 wx => ∃ (i : Nat) (dv : Value) (data : List Int), i ≤ r ∧ g = r - i ∧ s15 = .int .i64 i ∧ Blk wx xb 45 #[.int .i64 dp, .bool sg, .int .i64 dx, .int .i64 dy, dv] ∧ wx.ownsRow w.heap.size 3 1 dv i (data.map (Value.int .i64)) ∧ data.length = i ∧ (∀ x ∈ data, lo ≤ x ∧ x ≤ hi) ∧ w.grownBy wx (some xb))
  case atStart => exact ⟨0, _, [], Nat.zero_le _, rfl, rfl, hx, World.ownsRow_nil _ _ _ _, rfl, by simp, World.grownBy.refl _ _⟩
  case round =>
    obtain ⟨wy, rfl⟩ : ∃ wy : World, wy = wr := ⟨_, rfl⟩
    obtain ⟨i, dv, data, hi2, rfl, rfl, hxy, hdy, hdl, hdb, hgy⟩ := hrel
    have hsz := hgy.size
    by_cases hlt : i < r
    · have d1 : decide ((i : Int) < (r : Int)) = true := by simp; omega
      have v20 : wy.cell? ⟨fb, 20, none⟩ = some (.slice va nl.length vc) := (World.cell?_of_block (hgy.block fb (by omega) (by intro e; injection e with e; omega))).trans hf
      have hb0 : Below w0.heap.size w0 wy := h0.trans (below_grown hgy h0.size (by rintro k ⟨⟩; exact h0x))
      have hny := hn.keep hb0
      have HH := Lib.hid (And.intro hxy (And.intro hdy (And.intro hdl (And.intro hdb hgy))))
      have HN := Lib.hid hny
      have HX := Lib.hid (And.intro hn (And.intro h0 hx))
      clear hxy hdy hdl hdb hgy hny hb0 hn h0 hx
      go_upto_if 172 with fail
      go_cut [16] from 163 to 204 (fun s16 wx => ∃ (kk : Int) (m : Nat), s16 = .int .i64 kk ∧ wx = wy.drewN m)
      case first =>
        by_cases hnl : 0 < nl.length
        · have dn : decide ((0 : Int) < (nl.length : Int)) = true := by simp; omega
          have hml : i % nl.length < nl.length := Nat.mod_lt _ hnl
          obtain ⟨x, hx⟩ : ∃ x, nl[i % nl.length]? = some x := ⟨_, List.getElem?_eq_getElem hml⟩
          obtain ⟨a', c', he, -, -, hrd⟩ := HN.out
          obtain ⟨b, o, rfl, hcell⟩ := hrd _ _ hx
          have e1 : (i : Int).tmod (nl.length : Int) = ((i % nl.length : Nat) : Int) := (Int.ofNat_tmod _ _).symm
          have e2 : (i : Int).tdiv (nl.length : Int) = ((i / nl.length : Nat) : Int) := (Int.ofNat_tdiv _ _).symm
          have e3 : i / nl.length ≤ i := Nat.div_le_self _ _
          generalize i % nl.length = m at *
          generalize i / nl.length = q at *
          go_wp2_with fail
          go_quiet (fail)
          go_wp2_with fail
          go_meet
          exact ⟨_, _, rfl, rfl⟩
        · have dn : decide ((0 : Int) < (nl.length : Int)) = false := by rw [decide_eq_false_iff_not]; omega
          go_wp2_with fail
          go_meet
          exact ⟨_, 0, rfl, rfl⟩
      obtain ⟨kk, m, rfl, rfl⟩ := hcut
      obtain ⟨hxy, hdy, hdl, hdb, hgy⟩ := HH.out
      have hxz := hxy.drewN m
      have hdz := owns_drewN m hdy
      have hgz := only_drewN hgy m
      have hsz2 : wy.heap.size = (wy.drewN m).heap.size := rfl
      clear HH HN v20 hxy hdy hgy
      generalize wy.drewN m = wz at *
      obtain ⟨ad, cd, rfl⟩ := owns_slice hdz
      have x4 : wz.cell? ⟨xb, 4, none⟩ = some (.slice ad i cd) := hxz.cell 4
      have w1 : IntKind.i64.wrap (IntKind.i64.wrap (hi - lo) + 1) = hi - lo + 1 := by rw [IntWalk.i64_in (hi - lo) (by omega), IntWalk.i64_in _ (by omega)]
      have FZ := fun W => fwithin kk (hi - lo + 1) W (by omega) (by omega)
      have z1 := Int.emod_nonneg kk (show hi - lo + 1 ≠ 0 by omega)
      have z2 := Int.emod_lt_of_pos kk (show 0 < hi - lo + 1 by omega)
      generalize kk % (hi - lo + 1) = z at *
      rw [← w1] at FZ
      clear w1
      have w2 := Lib.hid (show IntKind.i64.wrap (lo + z) = lo + z from IntWalk.i64_in _ (by omega))
      have hxl : xb < wz.heap.size := by omega
      have hne2 : some xb ≠ (Value.slice ad i cd).ownBlock := fun e => by have := (hdz.lt _ e.symm).1; omega
      have hrow2 : ∀ j, (Value.slice ad i cd).ownBlock = some j → w.heap.size ≤ j := fun j hj => (hdz.lt j hj).1
      have HH := Lib.hid (And.intro hxz (And.intro hgz (And.intro hne2 hrow2)))
      have HD := Lib.hid hdz
      clear hxz hgz hne2 hrow2 hdz
      go_upto_region 25 with fail
      go_region_law (first
        | (go_simp; go_at_call 39; with_reducible refine (FZ _).mono ?_; rintro e w5 ⟨rfl, rfl⟩)
        | ((with_reducible refine step_append_own (o := ⟨some 203, _, _, _, _, _⟩) rfl (.tmp 193) (.tmp 202) 22 rfl w.heap.size 3 i0 (.int .i64 0) 1 8 Try.underlying22 hti hz0 hz1 hz2 rfl (by decide) (.slice ad i cd) i (data.map (Value.int .i64)) ?_ ?_ ⟨wz.heap.size, 0, none⟩ 1 1 [.int .i64 (IntKind.i64.wrap (lo + z))] ?_ ?_ ?_ ?_ ?_ ?_ ?_ ?_); simp [Act.eval]; exact World.ownsRow.alloc (owns_drewN _ HD.out) _; simp [Act.eval]; rfl; exact news_one (cell_new wz _ _ _); exact ints_oneCell .i64 [_]; unfold maxLen; omega; omega; simp; omega; intro v6 w6 hown6 hg6 hn6; obtain ⟨a6, p6, rfl⟩ := owns_slice hown6; have HX6 := Blk.grown (Blk.alloc (Blk.drewN HH.out.1 _) _) hg6 HH.out.2.2.1; have y4 : w6.cell? ⟨xb, 4, none⟩ = some (.slice ad i cd) := HX6.cell 4; have y5 := HX6.frozen 4))
      all_goals
        obtain ⟨hxz, hgz, hne2, hrow2⟩ := HH.out
        have hgN : w.grownBy w6 (some xb) := grown_step hgz hg6 hrow2
        have hownN : w6.ownsRow w.heap.size 3 1 (.slice a6 (i + 1) p6) (i + 1) ((data ++ [lo + z]).map (Value.int .i64)) := by
          rw [List.map_append]
          rw [w2.out] at hown6
          exact hown6
        have HR := Lib.hid (And.intro HX6 (And.intro hgN hownN))
        clear hown6 hg6 hgN hownN HX6
        go_wp2_with fail
        go_roundg (r - (i + 1))
        case measure => omega
        case rel =>
          refine ⟨i + 1, _, data ++ [lo + z], by omega, rfl, by go_num, HR.out.1.set_ 4 _, ownsRow_setCell_below HR.out.2.2 (by simp; omega) _, by simp [hdl], ?_, only_setCell HR.out.2.1 (p := ⟨xb, 4, none⟩) (.inl rfl) _⟩
          intro x hx
          rw [List.mem_append, List.mem_singleton] at hx
          rcases hx with hx | rfl
          · exact hdb x hx
          · omega
    · obtain rfl : i = r := by omega
      have d1 : decide ((i : Int) < (i : Int)) = false := by simp
      go_wp2_with fail
      exact HK.out _ _ _ _ _ _ _ _ _ _ _ _ _ _ _ _ _ _ _ _ _ _ _ _ _ _ _ _ _ _ _ _ _ _ _ _ _ _ _ _ _ _ _ _ _ _ _ hxy hdy hdl hdb hgy
end Go.Proofs.Ytlhlhlabnjfhcaa
