/- The laws' Form, Make: the loop that makes the components. -/
import Derived.Test.YtlhlhlabnjfhcaaFmD
import Derived.Deep.CutBlock
namespace Go.Proofs.Ytlhlhlabnjfhcaa
open Go.RowKit

structure FormD where
  x : Int
  y : Int
  ox : Int
  oy : Int
  comps : Int
  depth : Int
  sub : Int
  signed : Bool
  rct : Bool
  sop : Bool
  eph : Bool
  tx : Int
  ty : Int
  levels : Int
  cbw : Int
  cbh : Int
  prec : Int
  style : Int
  order : Int
  layers : Int
def formA (f : FormD) (ns : Value) : Array Value :=
  #[.int .i64 f.x, .int .i64 f.y, .int .i64 f.ox, .int .i64 f.oy, .int .i64 f.comps, .int .i64 f.depth, .int .i64 f.sub, .bool f.signed, .bool f.rct, .bool f.sop, .bool f.eph,
    .int .i64 f.tx, .int .i64 f.ty, .int .i64 f.levels, .int .i64 f.cbw, .int .i64 f.cbh, .int .i64 f.prec, .int .i64 f.style, .int .i64 f.order, .int .i64 f.layers, ns]

def imgA (m : ImgD) (v : Value) : Array Value := #[.int .i64 m.x, .int .i64 m.y, .int .i64 m.ox, .int .i64 m.oy, v]
def parA (p : ParD) : Array Value :=
  #[.int .i64 p.tx, .int .i64 p.ty, .int .i64 p.lv, .int .i64 p.cbw, .int .i64 p.cbh, .int .i64 p.prec, .int .i64 p.style, .int .i64 p.order, .int .i64 p.layers, .bool p.rct, .bool p.sop, .bool p.eph]

theorem Try.infoComp : (Try.prog.info? 45).map (fun i => (i.zero, i.size, i.bytes)) = some (some (.agg #[.int .i64 0, .bool false, .int .i64 0, .int .i64 0, .slice none 0 0]), 5, 56) := by kernel_rfl
theorem CompsOwn.slice {w : World} {B : Nat} {v : Value} {cs : List CompD} (h : CompsOwn w B v cs) : ∃ a c, v = .slice a cs.length c := by
  obtain ⟨dvs, h1, h2, -⟩ := h
  exact owns_slice h2
theorem CompsOwn.below {w w' : World} {B n : Nat} {v : Value} {cs : List CompD} (h : CompsOwn w B v cs) (hb : Below n w w') (hn : n = w.heap.size) : CompsOwn w' B v cs := by
  subst hn
  exact h.keep hb
theorem ceilI_one (X a : Int) (h1 : 1 ≤ X) (h2 : X ≤ a) : ceilI X a = 1 := by
  unfold ceilI
  have e : X + a - 1 = (X - 1) + a * 1 := by omega
  rw [e, Int.add_mul_ediv_left _ _ (by omega), Int.ediv_eq_zero_of_lt (by omega) (by omega)]
  rfl
theorem pow2_bd (k : Nat) (h : k ≤ 6) : (1 : Int) ≤ 2 ^ k ∧ (2 : Int) ^ k ≤ 64 := by
  obtain h | h | h | h | h | h | h : k = 0 ∨ k = 1 ∨ k = 2 ∨ k = 3 ∨ k = 4 ∨ k = 5 ∨ k = 6 := by omega
  all_goals subst h; decide

/-- what a component of the laws' is; plain: all alike -/
def FmOk (X Y Ox Oy : Int) (plain : Bool) (depth : Int) (sg : Bool) (c : CompD) : Prop :=
  1 ≤ c.depth ∧ c.depth ≤ 10 ∧ 1 ≤ c.dx ∧ c.dx ≤ 3 ∧ 1 ≤ c.dy ∧ c.dy ≤ 3 ∧ c.signed = sg ∧ (plain = true → c.depth = depth ∧ c.dx = 1 ∧ c.dy = 1) ∧
    (c.data.length : Int) = areaI X Y Ox Oy c.dx c.dy ∧ ∀ x ∈ c.data, loI c.depth c.signed ≤ x ∧ x ≤ hiI c.depth c.signed
theorem area_bd (X Y Ox Oy dx dy : Int) (x0 : Ox ≤ X) (x1 : X ≤ 64) (y0 : Oy ≤ Y) (y1 : Y ≤ 64) (o0 : 0 ≤ Ox) (o1 : 0 ≤ Oy) (k3 : 1 ≤ dx) (k5 : 1 ≤ dy) : 0 ≤ areaI X Y Ox Oy dx dy ∧ areaI X Y Ox Oy dx dy ≤ 4096 := by
  obtain ⟨a1, a2⟩ := ceilI_bd X dx (by omega) k3
  obtain ⟨a3, a4⟩ := ceilI_bd Ox dx (by omega) k3
  obtain ⟨a5, a6⟩ := ceilI_bd Y dy (by omega) k5
  obtain ⟨a7, a8⟩ := ceilI_bd Oy dy (by omega) k5
  have a9 := ceilI_mono Ox X dx (by omega) k3
  have a10 := ceilI_mono Oy Y dy (by omega) k5
  unfold areaI
  refine ⟨Int.mul_nonneg (by omega) (by omega), ?_⟩
  have : (ceilI X dx - ceilI Ox dx) * (ceilI Y dy - ceilI Oy dy) ≤ 64 * 64 := Int.mul_le_mul (by omega) (by omega) (by omega) (by omega)
  omega

/-- a component's numbers: depth, dx, dy -/
def compIs (sub depth : Int) (i : Nat) : Int × Int × Int :=
  if (sub.tmod 5 == 1) && decide (0 < i) then (1 + IntKind.i64.wrap (depth + i) % 10, 1 + IntKind.i64.wrap (IntKind.i64.wrap (sub.tdiv 5) + i) % 3, 1 + IntKind.i64.wrap (sub.tdiv 15) % 3) else (depth, 1, 1)
def CompsIs (sub depth : Int) (cs : List CompD) : Prop := ∀ i c, cs[i]? = some c → (c.depth, c.dx, c.dy) = compIs sub depth i
theorem CompsIs.snoc {sub depth : Int} {cs : List CompD} {c : CompD} (h : CompsIs sub depth cs) (hc : (c.depth, c.dx, c.dy) = compIs sub depth cs.length) : CompsIs sub depth (cs ++ [c]) := by
  intro i d hd
  rcases Nat.lt_trichotomy i cs.length with hi | hi | hi
  · rw [List.getElem?_append_left hi] at hd
    exact h i d hd
  · subst hi
    simp at hd
    rw [← hd]
    exact hc
  · rw [List.getElem?_eq_none (by simp; omega)] at hd
    cases hd

def ParOk (p : ParD) : Prop :=
  0 ≤ p.lv ∧ p.lv ≤ 5 ∧ 2 ≤ p.cbw ∧ p.cbw ≤ 4 ∧ 2 ≤ p.cbh ∧ p.cbh ≤ 4 ∧ 1 ≤ p.prec ∧ p.prec ≤ 15 ∧ 0 ≤ p.style ∧ p.style ≤ 63 ∧ 0 ≤ p.order ∧ p.order ≤ 4 ∧ 1 ≤ p.layers ∧ p.layers ≤ 4

set_option maxRecDepth 100000 in
set_option maxHeartbeats 4000000 in
theorem make_comps (K : Act → World → Prop) (f : FormD) (fb ib vc n : Nat) (nl : List Int) (va : Option Addr) (X Y ox oy depth : Int) (w0 w : World)
    (s0 s1 s3 s4 s5 s7 s11 s12 s13 s14 s15 s16 s17 s18 s19 s20 s21 s22 s23 s24 s25 s26 s27 s28 s29 s30 s31 s32 s33 s34 s35 s36 s37 s38 s39 s40 s41 s42 s43 s44 s45 s46 s47 s48 s49 s50 s51 s52 s53 s54 s55 s56 s57 s58 s59 s60 s61 s62 s63 s64 s65 s66 s67 s68 s69 s70 s71 s72 s73 s74 s75 s76 s77 s78 s79 s80 s81 s82 s83 s84 s85 s86 s87 s88 s89 s90 s91 s92 s93 s94 s95 s96 s97 s98 s99 s100 s101 s102 s103 s104 s105 s106 s107 s108 s109 s110 s111 s112 s113 s114 s115 s116 s117 s118 s119 s120 s121 s122 s123 s124 s125 s126 s127 s128 s129 s130 s131 s132 s133 s134 s135 s136 s137 s138 s139 s140 s141 s142 s143 s144 s145 s146 s147 s148 s149 s150 s151 s152 s153 s154 s155 s156 s157 s158 s159 s160 s161 s162 s163 s164 s165 s166 s167 s168 s169 s170 s171 s172 s173 s174 s175 s176 s177 s178 s179 s180 s181 s182 s183 s184 s185 s186 s187 s188 s189 s190 s191 s192 s193 s194 s195 s196 s197 s198 s199 s200 s201 s202 s203 s204 s205 s206 s207 s208 s209 s210 s211 s212 s213 s214 s215 s216 s217 s218 s219 s220 s221 s222 s223 s224 s225 : Value) (hn : RdI w0 (.slice va nl.length vc) nl) (h0 : Below w0.heap.size w0 w) (h0x : w0.heap.size ≤ ib) (hf : Blk w fb 24 (formA f (.slice va nl.length vc))) (hi : Blk w ib 29 (imgA ⟨X, Y, ox, oy, []⟩ (.slice none 0 0)))
    (x0 : ox < X) (x1 : X ≤ 64) (y0 : oy < Y) (y1 : Y ≤ 64) (o0 : 0 ≤ ox) (o1 : 0 ≤ oy) (de1 : 1 ≤ depth) (de2 : depth ≤ 10) (hn4 : n ≤ 4)
    (hk : ∀ (t11 t12 t13 t14 t15 t16 t115 t116 t117 t118 t119 t120 t121 t122 t123 t124 t125 t126 t127 t128 t129 t130 t131 t132 t133 t134 t135 t136 t137 t138 t139 t140 t141 t142 t143 t144 t145 t146 t147 t148 t149 t150 t151 t152 t153 t154 t155 t156 t157 t158 t159 t160 t161 t162 t163 t164 t165 t166 t167 t168 t169 t170 t171 t172 t173 t174 t175 t176 t177 t178 t179 t180 t181 t182 t183 t184 t185 t186 t187 t188 t189 t190 t191 t192 t193 t194 t195 t196 t197 t198 t199 t200 t201 t202 t203 t204 t205 t206 t207 t208 t209 t210 v : Value) (cs : List CompD) (wx : World), Blk wx ib 29 (imgA ⟨X, Y, ox, oy, []⟩ v) → CompsOwn wx w.heap.size v cs → cs.length = n →
      (∀ x ∈ cs, FmOk X Y ox oy (!(f.sub.tmod 5 == 1)) depth f.signed x) → CompsIs f.sub depth cs → w.grownBy wx (some ib) → K ⟨List.toArray (s0 :: s1 :: (.pointer (some ⟨fb, 0, none⟩)) :: s3 :: s4 :: s5 :: (.pointer (some ⟨ib, 0, none⟩)) :: s7 :: (.int .i64 depth) :: (.int .i64 n) :: (.int .i64 n) :: t11 :: t12 :: t13 :: t14 :: t15 :: t16 :: s17 :: s18 :: s19 :: s20 :: s21 :: s22 :: s23 :: s24 :: s25 :: s26 :: s27 :: s28 :: s29 :: s30 :: s31 :: s32 :: s33 :: s34 :: s35 :: s36 :: s37 :: s38 :: s39 :: s40 :: s41 :: s42 :: s43 :: s44 :: s45 :: s46 :: s47 :: s48 :: s49 :: s50 :: s51 :: s52 :: s53 :: s54 :: s55 :: s56 :: s57 :: s58 :: s59 :: s60 :: s61 :: s62 :: s63 :: s64 :: s65 :: s66 :: s67 :: s68 :: s69 :: s70 :: s71 :: s72 :: s73 :: s74 :: s75 :: s76 :: s77 :: s78 :: s79 :: s80 :: s81 :: s82 :: s83 :: s84 :: s85 :: s86 :: s87 :: s88 :: s89 :: s90 :: s91 :: s92 :: s93 :: s94 :: s95 :: s96 :: s97 :: s98 :: s99 :: s100 :: s101 :: s102 :: s103 :: s104 :: s105 :: s106 :: s107 :: s108 :: s109 :: s110 :: s111 :: s112 :: s113 :: s114 :: t115 :: t116 :: t117 :: t118 :: t119 :: t120 :: t121 :: t122 :: t123 :: t124 :: t125 :: t126 :: t127 :: t128 :: t129 :: t130 :: t131 :: t132 :: t133 :: t134 :: t135 :: t136 :: t137 :: t138 :: t139 :: t140 :: t141 :: t142 :: t143 :: t144 :: t145 :: t146 :: t147 :: t148 :: t149 :: t150 :: t151 :: t152 :: t153 :: t154 :: t155 :: t156 :: t157 :: t158 :: t159 :: t160 :: t161 :: t162 :: t163 :: t164 :: t165 :: t166 :: t167 :: t168 :: t169 :: t170 :: t171 :: t172 :: t173 :: t174 :: t175 :: t176 :: t177 :: t178 :: t179 :: t180 :: t181 :: t182 :: t183 :: t184 :: t185 :: t186 :: t187 :: t188 :: t189 :: t190 :: t191 :: t192 :: t193 :: t194 :: t195 :: t196 :: t197 :: t198 :: t199 :: t200 :: t201 :: t202 :: t203 :: t204 :: t205 :: t206 :: t207 :: t208 :: t209 :: t210 :: s211 :: s212 :: s213 :: s214 :: s215 :: s216 :: s217 :: s218 :: s219 :: s220 :: s221 :: s222 :: s223 :: s224 :: s225 :: []), []⟩ wx) :
    (blockOf 2 Try.f20).wp Try.prog (Exit.then K noQ) ⟨List.toArray (s0 :: s1 :: (.pointer (some ⟨fb, 0, none⟩)) :: s3 :: s4 :: s5 :: (.pointer (some ⟨ib, 0, none⟩)) :: s7 :: (.int .i64 depth) :: (.int .i64 n) :: (.int .i64 0) :: s11 :: s12 :: s13 :: s14 :: s15 :: s16 :: s17 :: s18 :: s19 :: s20 :: s21 :: s22 :: s23 :: s24 :: s25 :: s26 :: s27 :: s28 :: s29 :: s30 :: s31 :: s32 :: s33 :: s34 :: s35 :: s36 :: s37 :: s38 :: s39 :: s40 :: s41 :: s42 :: s43 :: s44 :: s45 :: s46 :: s47 :: s48 :: s49 :: s50 :: s51 :: s52 :: s53 :: s54 :: s55 :: s56 :: s57 :: s58 :: s59 :: s60 :: s61 :: s62 :: s63 :: s64 :: s65 :: s66 :: s67 :: s68 :: s69 :: s70 :: s71 :: s72 :: s73 :: s74 :: s75 :: s76 :: s77 :: s78 :: s79 :: s80 :: s81 :: s82 :: s83 :: s84 :: s85 :: s86 :: s87 :: s88 :: s89 :: s90 :: s91 :: s92 :: s93 :: s94 :: s95 :: s96 :: s97 :: s98 :: s99 :: s100 :: s101 :: s102 :: s103 :: s104 :: s105 :: s106 :: s107 :: s108 :: s109 :: s110 :: s111 :: s112 :: s113 :: s114 :: s115 :: s116 :: s117 :: s118 :: s119 :: s120 :: s121 :: s122 :: s123 :: s124 :: s125 :: s126 :: s127 :: s128 :: s129 :: s130 :: s131 :: s132 :: s133 :: s134 :: s135 :: s136 :: s137 :: s138 :: s139 :: s140 :: s141 :: s142 :: s143 :: s144 :: s145 :: s146 :: s147 :: s148 :: s149 :: s150 :: s151 :: s152 :: s153 :: s154 :: s155 :: s156 :: s157 :: s158 :: s159 :: s160 :: s161 :: s162 :: s163 :: s164 :: s165 :: s166 :: s167 :: s168 :: s169 :: s170 :: s171 :: s172 :: s173 :: s174 :: s175 :: s176 :: s177 :: s178 :: s179 :: s180 :: s181 :: s182 :: s183 :: s184 :: s185 :: s186 :: s187 :: s188 :: s189 :: s190 :: s191 :: s192 :: s193 :: s194 :: s195 :: s196 :: s197 :: s198 :: s199 :: s200 :: s201 :: s202 :: s203 :: s204 :: s205 :: s206 :: s207 :: s208 :: s209 :: s210 :: s211 :: s212 :: s213 :: s214 :: s215 :: s216 :: s217 :: s218 :: s219 :: s220 :: s221 :: s222 :: s223 :: s224 :: s225 :: []), []⟩ w := by
  conv in (blockOf _ _) => whnf
  unfold noQ
  have HK := Lib.hid hk
  clear hk
  obtain ⟨plain, hplain⟩ : ∃ b : Bool, b = !(f.sub.tmod 5 == 1) := ⟨_, rfl⟩
  have HPL := Lib.hid hplain
  rw [← hplain] at HK
  clear hplain
  have HF := Lib.hid (And.intro hn (And.intro h0 (And.intro hf hi)))
  have hne : fb ≠ ib := hf.ne_ hi (by decide)
  have hfl := hf.lt
  have hil := hi.lt
  have FW := Lib.hid (fun x n W (h1 : (1 : Int) ≤ n) h2 => fwithin x n W h1 h2)
  clear hn h0 hf hi
  go_wp2_with fail
  go_loopg [10] n (fun g s10 wx => ∃ (c : Nat) (v : Value) (cs : List CompD), c ≤ n ∧ g = n - c ∧ s10 = .int .i64 c ∧ Blk wx ib 29 (imgA ⟨X, Y, ox, oy, []⟩ v) ∧ CompsOwn wx w.heap.size v cs ∧ cs.length = c ∧ (∀ x ∈ cs, FmOk X Y ox oy plain depth f.signed x) ∧ CompsIs f.sub depth cs ∧ w.grownBy wx (some ib))
  case atStart => exact ⟨0, _, [], Nat.zero_le _, rfl, rfl, HF.out.2.2.2, CompsOwn.nil _ _, rfl, by simp, by intro i c hc; simp at hc, World.grownBy.refl _ _⟩
  case round =>
    obtain ⟨wl, rfl⟩ : ∃ wl : World, wl = wr := ⟨_, rfl⟩
    obtain ⟨c, v, cs, hc, rfl, rfl, hic, hco, hcl, hall, his, hgc⟩ := hrel
    have hzc := hgc.size
    by_cases hlt : c < n
    · have d1 : decide ((c : Int) < (n : Int)) = true := by simp; omega
      have hfc := HF.out.2.2.1.grown hgc (by simpa using hne)
      have v7 : wl.cell? ⟨fb, 7, none⟩ = some (.bool f.signed) := hfc.cell 7
      have v6 : wl.cell? ⟨fb, 6, none⟩ = some (.int .i64 f.sub) := hfc.cell 6
      have HC := Lib.hid (And.intro hfc (And.intro hic (And.intro hco (And.intro hcl (And.intro hall (And.intro his hgc))))))
      clear hfc hic hco hcl hall his hgc
      go_upto_region 15 with fail
      have hx0 : Blk (wl.alloc (.cells #[.int .i64 depth, .bool f.signed, .int .i64 1, .int .i64 1, .slice none 0 0] 45)) wl.heap.size 45 #[.int .i64 depth, .bool f.signed, .int .i64 1, .int .i64 1, .slice none 0 0] := Blk.new _ _ _
      have hbd : Below wl.heap.size wl (wl.alloc (.cells #[.int .i64 depth, .bool f.signed, .int .i64 1, .int .i64 1, .slice none 0 0] 45)) := (Below.refl _ _).alloc (Nat.le_refl _) _
      have hzd : wl.heap.size < (wl.alloc (.cells #[.int .i64 depth, .bool f.signed, .int .i64 1, .int .i64 1, .slice none 0 0] 45)).heap.size := by simp
      generalize wl.alloc (.cells #[.int .i64 depth, .bool f.signed, .int .i64 1, .int .i64 1, .slice none 0 0] 45) = wd at *
      have v6d : wd.cell? ⟨fb, 6, none⟩ = some (.int .i64 f.sub) := bcellC hbd v6 (by simp; omega)
      obtain ⟨x2, x3, x0'⟩ : wd.cell? ⟨wl.heap.size, 2, none⟩ = some (.int .i64 1) ∧ wd.cell? ⟨wl.heap.size, 3, none⟩ = some (.int .i64 1) ∧ wd.cell? ⟨wl.heap.size, 0, none⟩ = some (.int .i64 depth) := ⟨hx0.cell 2, hx0.cell 3, hx0.cell 0⟩
      have fx2 := hx0.frozen 2
      have fx3 := hx0.frozen 3
      have fx0 := hx0.frozen 0
      clear v6 v7
      go_cut [131] from 115 to 210 (fun s131 wx => wd = wx ∧ ∃ bb : Bool, s131 = .bool bb ∧ bb = ((f.sub.tmod 5 == 1) && decide (0 < c)))
      case first =>
        --[r15
        rcases Bool.eq_false_or_eq_true (f.sub.tmod 5 == 1) with hm | hm
        · go_wp2_with fail
          go_meet
          refine ⟨rfl, _, rfl, ?_⟩
          rw [hm]
          simp
        · go_wp2_with fail
          go_meet
          refine ⟨rfl, _, rfl, ?_⟩
          rw [hm]
          rfl
        --]r15
      obtain ⟨rfl, bb, rfl, hbb'⟩ := hcut
      have hbb : plain = true → bb = false := fun hp => by
        rw [HPL.out] at hp
        rw [hbb']
        simp at hp
        simp [hp]
      have HCI : Hid (compIs f.sub depth c = if bb then (1 + IntKind.i64.wrap (depth + c) % 10, 1 + IntKind.i64.wrap (IntKind.i64.wrap (f.sub.tdiv 5) + c) % 3, 1 + IntKind.i64.wrap (f.sub.tdiv 15) % 3) else (depth, 1, 1)) := Lib.hid (by rw [hbb']; rfl)
      clear hbb'
      go_upto_if 131 with fail
      go_cut [] from 115 to 210 (fun wx => (∃ dp dx dy : Int, Blk wx wl.heap.size 45 #[.int .i64 dp, .bool f.signed, .int .i64 dx, .int .i64 dy, .slice none 0 0] ∧ 1 ≤ dp ∧ dp ≤ 10 ∧ 1 ≤ dx ∧ dx ≤ 3 ∧ 1 ≤ dy ∧ dy ≤ 3 ∧ (plain = true → dp = depth ∧ dx = 1 ∧ dy = 1) ∧ (dp, dx, dy) = compIs f.sub depth c) ∧ wd.grownBy wx (some wl.heap.size))
      case first =>
        --[r16
        cases bb
        · go_wp2_with fail
          go_meet
          exact ⟨⟨depth, 1, 1, hx0, de1, de2, by decide, by decide, by decide, by decide, fun _ => ⟨rfl, rfl, rfl⟩, HCI.out.symm⟩, World.grownBy.refl _ _⟩
        · have hS : ∀ (W : World) (j : Nat) (u : Value), W.cell? ⟨fb, 6, none⟩ = some (.int .i64 f.sub) → (W.setCell ⟨wl.heap.size, j, none⟩ u).cell? ⟨fb, 6, none⟩ = some (.int .i64 f.sub) := fun W j u h => (World.cell?_setCell_other _ _ _ _ (by first | (simp; done) | (simp; omega))).trans h
          go_wp2_with fail
          go_region_held3 (fun w' => w'.cell? ⟨fb, 6, none⟩ = some (.int .i64 f.sub))
            (first | exact v6d | exact hS _ _ _ v6d | exact hS _ _ _ (hS _ _ _ v6d) | exact hS _ _ _ (hS _ _ _ (hS _ _ _ v6d)))
            (first | (go_at_call 39; refine (FW.out _ _ _ (by decide) (by decide)).mono ?_; rintro e w' ⟨rfl, rfl⟩))
          all_goals
            have W3 : ∀ z : Int, IntKind.i64.wrap (1 + z % 3) = 1 + z % 3 := fun z => IntWalk.i64_in _ (by omega)
            have W10 : ∀ z : Int, IntKind.i64.wrap (1 + z % 10) = 1 + z % 10 := fun z => IntWalk.i64_in _ (by omega)
            simp only [W3, W10]
            go_wp2_with fail
            go_meet
            refine ⟨⟨1 + _ % 10, 1 + _ % 3, 1 + _ % 3, ((hx0.set_ 2 _).set_ 3 _).set_ 0 _, by omega, by omega, by omega, by omega, by omega, by omega, fun hp => (by cases hbb hp), (by rw [HCI.out]; first | exact (if_pos trivial).symm | exact (if_pos rfl).symm)⟩, ?_⟩
            exact only_drew (only_setCell (only_setCell (only_setCell (World.grownBy.refl _ _) (p := ⟨wl.heap.size, 2, none⟩) (.inl rfl) _) (p := ⟨wl.heap.size, 3, none⟩) (.inl rfl) _) (p := ⟨wl.heap.size, 0, none⟩) (.inl rfl) _)
        --]r16
      obtain ⟨we, rfl⟩ : ∃ we : World, we = wc := ⟨_, rfl⟩
      obtain ⟨⟨dp, dx, dy, hxe, r1, r2, r3, r4, r5, r6, hpl, hpi⟩, hge⟩ := hcut
      have HPI := Lib.hid hpi
      clear hpi
      obtain ⟨hfc, hic, hco, hcl, hall, his, hgc⟩ := HC.out
      have hbe : Below wl.heap.size wl we := hbd.trans (below_grown hge (Nat.le_of_lt hzd) (by rintro k ⟨⟩; exact Nat.le_refl _))
      have hze := hbe.size
      have hzx := hxe.lt
      obtain ⟨av, cv, rfl⟩ := hco.slice
      have hfe := hfc.below hbe hfc.lt
      have hie := hic.below hbe hic.lt
      obtain ⟨A1, A2⟩ := area_bd X Y ox oy dx dy (by omega) x1 (by omega) y1 o0 o1 r3 r5
      obtain ⟨r, hr⟩ := Int.eq_ofNat_of_zero_le A1
      have hr4 : r ≤ 4096 := by omega
      have CP := fun W => canvasPart_any X Y ox oy (.slice av cs.length cv) dp f.signed dx dy (.slice none 0 0) W (by omega) x1 (by omega) y1 o0 o1 r3 (by omega) r5 (by omega)
      simp only [hr] at CP
      have BD := fun W => rbounds_any dp f.signed W r1 (by omega)
      obtain ⟨m0, m1, m2, m3, m4⟩ : we.cell? ⟨ib, 0, none⟩ = some (.int .i64 X) ∧ we.cell? ⟨ib, 1, none⟩ = some (.int .i64 Y) ∧ we.cell? ⟨ib, 2, none⟩ = some (.int .i64 ox) ∧ we.cell? ⟨ib, 3, none⟩ = some (.int .i64 oy) ∧ we.cell? ⟨ib, 4, none⟩ = some (.slice av cs.length cv) := ⟨hie.cell 0, hie.cell 1, hie.cell 2, hie.cell 3, hie.cell 4⟩
      obtain ⟨z0, z1, z2, z3, z4⟩ : we.cell? ⟨wl.heap.size, 0, none⟩ = some (.int .i64 dp) ∧ we.cell? ⟨wl.heap.size, 1, none⟩ = some (.bool f.signed) ∧ we.cell? ⟨wl.heap.size, 2, none⟩ = some (.int .i64 dx) ∧ we.cell? ⟨wl.heap.size, 3, none⟩ = some (.int .i64 dy) ∧ we.cell? ⟨wl.heap.size, 4, none⟩ = some (.slice none 0 0) := ⟨hxe.cell 0, hxe.cell 1, hxe.cell 2, hxe.cell 3, hxe.cell 4⟩
      have HE := Lib.hid (And.intro hfe (And.intro hie (And.intro hxe (And.intro hbe hr))))
      have HCP := Lib.hid CP
      have HBD := Lib.hid BD
      clear hfe hie hxe hbe hr CP BD hfc hic hco hcl hall his hgc hx0 hbd v6d x2 x3 x0' fx2 fx3 fx0 hge A1 A2
      go_upto_block 4 with (first | (go_at_call 41; refine (HBD.out _).mono ?_; rintro e w' ⟨rfl, rfl⟩) | (go_at_call 42; refine (HCP.out _).mono ?_; rintro e wf ⟨rfl, hbf⟩))
      obtain ⟨hfe, hie, hxe, hbe, hr⟩ := HE.out
      obtain ⟨hn, h0, hf, hi⟩ := HF.out
      obtain ⟨hfc, hic, hco, hcl, hall, his, hgc⟩ := HC.out
      have hzf := hbf.size
      have hff := hfe.below hbf hfe.lt
      have hif := hie.below hbf hie.lt
      have hxf := hxe.below hbf hxe.lt
      have h0f : Below w0.heap.size w0 wf := (h0.trans (below_grown hgc h0.size (by rintro k ⟨⟩; omega))).trans ((hbe.trans (hbf.mono hze)).mono (by have := h0.size; omega))
      obtain ⟨b1, b2, b3⟩ := lohi_bd dp f.signed r1 (by omega)
      refine wp_piece (make_data _ fb wl.heap.size vc r nl va dp dx dy (loI dp f.signed) (hiI dp f.signed) f.signed w0 wf _ _ _ _ _ _ _ _ _ _ _ _ _ _ _ _ _ _ _ _ _ _ _ _ _ _ _ _ _ _ _ _ _ _ _ _ _ _ _ _ _ _ _ _ _ _ _ _ _ _ _ _ _ _ _ _ _ _ _ _ _ _ _ _ _ _ _ _ _ _ _ _ _ _ _ _ _ _ _ _ _ _ _ _ _ _ _ _ _ _ _ _ _ _ _ _ _ _ _ _ _ _ _ _ _ _ _ _ _ _ _ _ _ _ _ _ _ _ _ _ _ _ _ _ _ _ _ _ _ _ _ _ _ _ _ _ _ _ _ _ _ _ _ _ _ _ _ _ _ _ _ _ _ _ _ _ _ _ _ _ _ _ _ _ _ _ _ _ _ _ _ _ _ _ _ _ _ _ _ _ _ _ _ _ _ _ _ _ _ _ _ _ _ _ _ _ _ _ _ _ _ _ _ _ _ _ _ _ _ _ _ _ _ _ _ _ _ _ _ _ hn h0f (by have := h0.size; omega) (by omega) (hff.cell 20) hxf b1 b2 b3 hr4 ?_)
      rintro t15 t16 t163 t164 t165 t166 t167 t168 t169 t170 t171 t172 t173 t174 t175 t176 t177 t178 t179 t180 t181 t182 t183 t184 t185 t186 t187 t188 t189 t190 t191 t192 t193 t194 t195 t196 t197 t198 t199 t200 t201 t202 t203 t204 dv data wy hx5 hd5 hl5 hb5 hg5
      have hzy := hg5.size
      have hiy := hif.grown hg5 (by simp; omega)
      have hbwy : Below wl.heap.size wl wy := (hbe.trans (hbf.mono hze)).trans (below_grown hg5 (by omega) (by rintro k ⟨⟩; exact Nat.le_refl _))
      have hcoy := hco.keep hbwy
      obtain ⟨dvs, hdl, ho, hds⟩ := hcoy
      obtain ⟨ad, pd, rfl⟩ := owns_slice hd5
      have hd6 := owns_base hd5 (B' := w.heap.size) (by omega)
      obtain ⟨i1, ci, cz0, cz1, cz2⟩ := info_parts Try.infoComp
      obtain ⟨z0, z1, z2, z3, z4⟩ : wy.cell? ⟨wl.heap.size, 0, none⟩ = some (.int .i64 dp) ∧ wy.cell? ⟨wl.heap.size, 1, none⟩ = some (.bool f.signed) ∧ wy.cell? ⟨wl.heap.size, 2, none⟩ = some (.int .i64 dx) ∧ wy.cell? ⟨wl.heap.size, 3, none⟩ = some (.int .i64 dy) ∧ wy.cell? ⟨wl.heap.size, 4, none⟩ = some (.slice ad r pd) := ⟨hx5.cell 0, hx5.cell 1, hx5.cell 2, hx5.cell 3, hx5.cell 4⟩
      have m4 : wy.cell? ⟨ib, 4, none⟩ = some (.slice av cs.length cv) := hiy.cell 4
      have hvlt : ∀ j, (Value.slice av cs.length cv).ownBlock = some j → w.heap.size ≤ j := fun j hj => (ho.lt j hj).1
      have hg6 : w.grownBy wy (some ib) := only_thenO hgc (only_of_below hbwy none) (by simp)
      have hzw : w.heap.size ≤ wy.heap.size := by omega
      have hxl : wl.heap.size < wy.heap.size := by omega
      have hil2 : ib < wy.heap.size := by omega
      have HH := Lib.hid (And.intro hiy (And.intro hx5 (And.intro hds (And.intro hd6 (And.intro hg6 (And.intro hl5 (And.intro hb5 (And.intro hr (And.intro hcl (And.intro hall (And.intro hvlt his)))))))))))
      have HO := Lib.hid ho
      have hccs : cs.length ≤ 4 := by omega
      clear hiy hx5 hds hd6 hg6 hl5 hb5 hcl hall his hvlt ho hn h0 hf hi hfe hie hxe hbe hfc hic hco hgc hff hif hxf h0f hd5 hbf hg5 hbwy HE HC HF HCP HBD
      go_wp2_with (at_builtin; go_must (refine wpList_append_own _ rfl _ _ 27 rfl w.heap.size 45 i1 (.agg #[.int .i64 0, .bool false, .int .i64 0, .int .i64 0, .slice none 0 0]) 5 56 Try.underlying27 ci cz0 cz1 cz2 rfl (by decide) _ _ _ rfl (HO.out.alloc _) ⟨wy.heap.size, 0, none⟩ 1 1 [.int .i64 dp, .bool f.signed, .int .i64 dx, .int .i64 dy, .slice ad r pd] rfl rfl (news_block _ _ _) (by simp [Value.oneCell']) (by unfold maxLen; omega) (by omega) (by simp; omega) ?_; intro v' w7 hown7 hg7 hn7; obtain ⟨a7, p7, rfl⟩ := owns_slice hown7; have HI7 := (HH.out.1.alloc _).grown hg7 (fun e => by have := HH.out.2.2.2.2.2.2.2.2.2.2.1 _ e.symm; omega); have q4 : w7.cell? ⟨ib, 4, none⟩ = some (.slice av cs.length cv) := HI7.cell 4; have q5 := HI7.frozen 4; have HI := Lib.hid HI7; have HG := Lib.hid (And.intro hown7 hg7); clear HI7 hown7 hg7 hn7))
      go_roundg (n - (c + 1))
      case measure => omega
      case rel =>
        obtain ⟨hiy, hx5, hds, hd6, hg6, hl5, hb5, hr, hcl, hall, hvlt, his⟩ := HH.out
        obtain ⟨hown7, hg7⟩ := HG.out
        refine ⟨c + 1, .slice a7 (cs.length + 1) p7, cs ++ [⟨dp, f.signed, dx, dy, data⟩], by omega, rfl, by go_num, HI.out.set_ 4 _, ?_, by simp [hcl], ?_, his.snoc (by rw [hcl]; exact HPI.out), ?_⟩
        · refine CompsOwn.setCell (CompsOwn.snoc hdl (World.ownsRow.alloc HO.out _) (fun i c dv hc hd => World.ownsRow.alloc (hds i c dv hc hd) _) (dv := .slice ad r pd) ?_ ?_ hg7) hil _
          · simp only
            rw [hl5]
            exact World.ownsRow.alloc hd6 _
          · exact hown7
        · intro x hx
          rw [List.mem_append, List.mem_singleton] at hx
          rcases hx with hx | rfl
          · exact hall x hx
          · refine ⟨r1, r2, r3, r4, r5, r6, rfl, hpl, ?_, hb5⟩
            simp only
            rw [hl5, hr]
        · exact only_setCell (only_thenO (only_alloc hg6 _) hg7 hvlt) (p := ⟨ib, 4, none⟩) (.inl rfl) _
    · obtain rfl : c = n := by omega
      have d1 : decide ((c : Int) < (c : Int)) = false := by simp
      go_wp2_with fail
      exact HK.out _ _ _ _ _ _ _ _ _ _ _ _ _ _ _ _ _ _ _ _ _ _ _ _ _ _ _ _ _ _ _ _ _ _ _ _ _ _ _ _ _ _ _ _ _ _ _ _ _ _ _ _ _ _ _ _ _ _ _ _ _ _ _ _ _ _ _ _ _ _ _ _ _ _ _ _ _ _ _ _ _ _ _ _ _ _ _ _ _ _ _ _ _ _ _ _ _ _ _ _ _ _ _ _ _ hic hco hcl hall his hgc
end Go.Proofs.Ytlhlhlabnjfhcaa
