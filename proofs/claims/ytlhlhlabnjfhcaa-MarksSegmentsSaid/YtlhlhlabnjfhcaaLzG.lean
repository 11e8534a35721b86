/- MarksSegments: the law's walk. -/
import Derived.Test.YtlhlhlabnjfhcaaRsE
import Derived.Test.YtlhlhlabnjfhcaaHdD
import Derived.Deep.AppendLies
import Derived.Laws.BytesArg
import Derived.BigQuiet
namespace Go.Proofs.Ytlhlhlabnjfhcaa
open Go.RowKit Go.Maps

theorem comps_ok {f : FormD} {m : ImgD} {p : ParD} (h : MadeOk f 8 m p) : ∀ c ∈ m.cs, 1 ≤ c.depth ∧ c.depth ≤ 16 ∧ 0 ≤ c.dx ∧ c.dx ≤ 100 ∧ 0 ≤ c.dy ∧ c.dy ≤ 100 := by
  obtain ⟨depth, -, -, hall⟩ := h.comps
  intro c hc
  have := hall c hc
  unfold FmOk at this
  omega
/-- a string of a slice's bytes -/
theorem conv_string {w : World} {v : Value} {l : List UInt8} (h : BV w v l) : (convert 25 9 v).run Try.prog w = .ok (.string ⟨l.toArray⟩) w := by
  obtain ⟨A, c, rfl, h1, h2, h3⟩ := h
  rcases A with _ | ad
  · have h0 : l.length = 0 := by
      rcases Nat.eq_zero_or_pos l.length with h | h
      · exact h
      · obtain ⟨_, h, _⟩ := h3.2 h; cases h
    obtain rfl : l = [] := List.eq_nil_of_length_eq_zero h0
    exact run_convert_bytes_nil (P := Try.prog) w 25 5 Try.underlying25 Try.underlying5 0 c 9 Try.underlying9
  · exact run_convert_bytes_back (P := Try.prog) w 25 9 5 ad c l Try.underlying25 Try.underlying5 Try.underlying9 (fun j hj => by
      obtain ⟨ad', e, -, hc⟩ := h3.cell (List.getElem?_eq_getElem hj)
      injection e with e
      rw [e]
      exact hc)
theorem spot_none' {w : World} {a : Addr} {v : Value} (h : w.cell? a = some v) : a.spot = none := by
  unfold World.cell? at h
  split at h
  · split at h
    · cases h
    · rename_i h2
      simpa using h2
  · cases h
theorem BV.addr {w : World} {a : Option Addr} {n c : Nat} {l : List UInt8} (h : BV w (.slice a n c) l) (hn : 0 < l.length) : ∃ b o, a = some ⟨b, o, none⟩ := by
  obtain ⟨A, c', he, h1, h2, h3⟩ := h
  cases he
  obtain ⟨ad, e, -, hc⟩ := h3.2 hn
  have h0 := hc 0 _ (cellsB_get l 0 l[0] (List.getElem?_eq_getElem hn))
  obtain ⟨b, o, s⟩ := ad
  cases s with
  | none => exact ⟨b, o, e⟩
  | some k =>
    have := spot_none' h0
    unfold Addr.add at this
    simp at this
theorem parse_both (v : Value) (l l2 : List UInt8) (e : Int) (h2 : HeadM) (w : World) (hv : BV w v l) (hl : l.length ≤ 1000000000) (ha : All l e h2 l2) :
    Calls Try.prog 16 #[v] w fun r w' => ∃ A nn, Head1 A ∧ r = .returned (.tuple #[.agg A, .int .i64 nn, .int .i64 e]) ∧ Below w.heap.size w w' ∧ (e = 0 → nn = (l.length : Int) - l2.length - 2 ∧ ∃ cv mv, headA (imgH h2) cv h2.p mv = A ∧ BV w' mv h2.com) := by
  by_cases he : e = 0
  · subst he
    exact (parse_ok1 v l l2 h2 w hv hl ha).mono fun r w' ⟨A, cv, mv, h1, h3, h4, h5, h6, h7⟩ => ⟨A, _, h1, h4, h7, fun _ => ⟨rfl, cv, mv, h3, h6⟩⟩
  · exact (parse_err1 v l l2 e h2 w hv hl ha he).mono fun r w' ⟨A, h1, h4, h7⟩ => ⟨A, 0, h1, h4, h7, fun h => absurd h he⟩
theorem main_small2 {f : FormD} {m : ImgD} {p : ParD} (h : MadeOk f 8 m p) : (mainM m p []).length + 300 ≤ 1000000 := by
  have hp := h.par
  have h4 := h.n4
  unfold ParOk at hp
  unfold mainM
  simp only [List.length_append, segB_length, sizB_length, codM_length p hp.1, qcdM_length, comB_length, putsB_length, List.length_cons, List.length_nil]
  split <;> omega
theorem BV.four (w : World) (x1 x2 x3 x4 : UInt8) (g : Nat) (hg : g = w.heap.size) : (w.alloc (.cells #[.int .u8 (x1.toNat : Int), .int .u8 (x2.toNat : Int), .int .u8 (x3.toNat : Int), .int .u8 (x4.toNat : Int)] 5)).ownsRow w.heap.size 5 1 (.slice (some ⟨g, 0, none⟩) 4 4) 4 (cellsB [x1, x2, x3, x4]) :=
  own_lit w #[.int .u8 (x1.toNat : Int), .int .u8 (x2.toNat : Int), .int .u8 (x3.toNat : Int), .int .u8 (x4.toNat : Int)] 5 4 g rfl hg (Nat.le_refl _) (by decide)

set_option maxRecDepth 100000 in
set_option maxHeartbeats 4000000 in
theorem segments_law (f : FormD) (ns : Value) (nl : List Int) (q : Int) (dv : Value) (d : List UInt8) (tw : Bool) (w : World) (hn : RdI w ns nl) (hdv : BV w dv d) :
    Calls Try.prog 3 #[.agg (formA f ns), .int .i64 q, dv, .bool tw] w fun e w' => e = .returned (.bool true) ∧ Below w.heap.size w w' := by
  have HN := Lib.hid hn
  have HDV := Lib.hid hdv
  obtain ⟨na, nc, rfl, -⟩ := hn
  obtain ⟨da, dc, rfl, -⟩ := hdv
  obtain ⟨D, hD⟩ : ∃ D, d.length = D := ⟨_, rfl⟩
  rw [hD] at HDV ⊢
  have HDD := Lib.hid hD
  have KN := Lib.hid known_any
  have WI := Lib.hid fun W => lwithin q 256 W (by decide) (by decide)
  obtain ⟨t, ht⟩ := Int.eq_ofNat_of_zero_le (Int.emod_nonneg q (show (256 : Int) ≠ 0 by decide))
  have ht2 := Int.emod_lt_of_pos q (show (0 : Int) < 256 by decide)
  rw [ht] at WI ht2
  have ht3 : t < 256 := by omega
  clear ht ht2
  unfold formA
  go_enter Try.func3, Try.ntmps3
  go_upto_region 1 with fail
  obtain ⟨wA, hwA⟩ : ∃ wA, wA = w.alloc (.cells (formA f (.slice na nl.length nc)) 24) := ⟨_, rfl⟩
  have hh : Blk wA w.heap.size 24 (formA f (.slice na nl.length nc)) := by rw [hwA]; exact Blk.new _ _ _
  have hBA : Below w.heap.size w wA := by rw [hwA]; exact (Below.refl _ _).alloc (Nat.le_refl _) _
  have hsA : w.heap.size < wA.heap.size := by rw [hwA]; simp
  unfold formA at hwA
  simp only [← hwA]
  clear hwA
  have HH := Lib.hid (And.intro hh hBA)
  clear hh hBA
  clear hD
  by_cases h100 : D ≤ 100
  case neg =>
    have d100 : decide ((100 : Int) < (D : Int)) = true := by simp; omega
    have z100 : (100 : Int) < (D : Int) := by omega
    go_wp2_with (go_at_call 11; refine (KN.out _).mono ?_; rintro e w1 ⟨rfl, hB1⟩)
    go_ret
    exact ⟨rfl, HH.out.2.trans (hB1.mono HH.out.2.size)⟩
  have d100 : decide ((100 : Int) < (D : Int)) = false := by simp; omega
  go_upto_region 5 with (go_at_call 11; refine (KN.out _).mono ?_; rintro e w1 ⟨rfl, hB1⟩)
  have hh1 := HH.out.1.below hB1 hsA
  have hw1 := HH.out.2.trans (hB1.mono HH.out.2.size)
  have HG : Hid (w1.heap[w.heap.size]? = some (.cells (formA f (.slice na nl.length nc)) 24 (0, 0))) := hh1
  have HD := Lib.hid (head_any1 f (.slice na nl.length nc) nl (.slice none 0 0) w1 (HN.out.keep hw1) ⟨_, _, _, rfl⟩)
  have HW1 := Lib.hid hw1
  clear hh1 hw1 hB1 HH hsA KN HN
  go_step
  refine wpList_load_row rfl 24 (.tmp 4) rfl w.heap.size rfl 24 (formA f (.slice na nl.length nc)) (0, 0) _ HG.out Try.underlying24 rfl (by kernel_rfl) ?_
  go_upto_region 6 with (go_at_call 12; refine HD.out.mono ?_; rintro e w2 ⟨m, p, va, vc, A, hA, hE, rfl, hco, hok, hb2⟩; have hA1 := hA.1; have hst := store_head hA; have HHD := Lib.hid (And.intro hA (And.intro hE (And.intro hco (And.intro hok hb2)))); clear hA hE hco hok hb2)
  obtain ⟨hA, hE, hco, hok, hb2⟩ := HHD.out
  obtain ⟨w3, hw3⟩ : ∃ w3, w3 = newHead w2 A := ⟨_, rfl⟩
  have hb3 : Blk w3 w2.heap.size 33 A := by rw [hw3]; exact newHead_blk w2 hA
  have hb23 : Below w2.heap.size w2 w3 := by rw [hw3]; exact newHead_below w2 A
  have hco3 := hco.keep hb23
  have hW3 := HW1.out.trans ((hb2.trans (hb23.mono hb2.size)).mono HW1.out.size)
  simp only [← hw3]
  clear hw3
  have HG3 : Hid (w3.heap[w2.heap.size]? = some (.cells A 33 (0, 0))) := hb3
  have hcf := hok.par.fit
  have TR := toref_any m (.slice va m.cs.length vc) p (.slice none 0 0) w3 ⟨_, _, _, rfl⟩ ⟨_, _, _, rfl⟩
  have MA := fun (W : World) (hb : Below w3.heap.size w3 W) => rmain_any m (.slice va m.cs.length vc) p (.slice none 0 0) [] W (CompsRd.of_owns (hco3.keep hb)) (BV.nil _) (by decide) (by have := hok.n4; omega) (comps_ok hok) hcf (by have := hok.par; unfold ParOk at this; omega)
  rw [hE] at MA TR
  have HM := Lib.hid MA
  have HT := Lib.hid TR
  have HB3 := Lib.hid hb3
  have HW3 := Lib.hid hW3
  have HML := Lib.hid (main_small hok [] (by decide))
  have HOK2 := Lib.hid hok
  have HML2 : Hid ((mainM m p []).length + 300 ≤ 1000000) := Lib.hid (main_small2 hok)
  have HOK := Lib.hid (And.intro hok hco3)
  have HEE := Lib.hid hE
  have sg := hb3.lt
  clear hA hco hb2 hb3 hb23 hco3 hW3 MA HHD hst HW1 HG HD
  go_step
  refine wpList_load_row rfl 33 (.tmp 9) rfl w2.heap.size rfl 33 A (0, 0) _ HG3.out Try.underlying33 rfl (by rw [hA1]; kernel_rfl) ?_
  go_upto_region 8 with (first | (go_at_call 13; refine (HM.out _ HBT.out).mono ?_; rintro e w4 ⟨v4, rfl, ho4, hb4⟩; obtain ⟨M, hM⟩ : ∃ M, mainM m p [] = M := ⟨_, rfl⟩; rw [hM] at ho4; have HMM := Lib.hid hM; clear hM; obtain ⟨N, hN⟩ : ∃ N, M.length = N := ⟨_, rfl⟩; rw [hN] at ho4; have HN := Lib.hid hN; clear hN; obtain ⟨a4, c4, rfl⟩ := owns_slice ho4; have HO4 := Lib.hid (And.intro ho4 hb4); clear ho4 hb4) | (go_at_call 14; refine HT.out.mono ?_; rintro e wt ⟨rfl, hbt⟩; have HBT := Lib.hid hbt; clear hbt) | (go_at_call 15; refine (WI.out _).mono ?_; rintro e w' ⟨rfl, rfl⟩))
  have hW4 : Below w.heap.size w w4 := HW3.out.trans ((HBT.out.trans (HO4.out.2.mono HBT.out.size)).mono HW3.out.size)
  have HW4 := Lib.hid hW4
  have HBM := Lib.hid (BV.ofn HO4.out.1 HN.out)
  have HDV4 := Lib.hid (HDV.out.keep hW4)
  obtain ⟨bt, hbt, hbt2⟩ : ∃ bt : UInt8, UInt8.ofNat t = bt ∧ IntKind.u8.wrap (t : Int) = (bt.toNat : Int) := ⟨_, rfl, by rw [u8_small (t : Int) (by omega), show ((t : Int)).toNat = t by omega]⟩
  obtain ⟨bd, hbd, hbd2⟩ : ∃ bd : UInt8, UInt8.ofNat (D + 2) = bd ∧ IntKind.u8.wrap ((D : Int) + 2) = (bd.toNat : Int) := ⟨_, rfl, by rw [u8_small ((D : Int) + 2) (by omega), show ((D : Int) + 2).toNat = D + 2 by omega]⟩
  have y1 : IntKind.i64.wrap ((D : Int) + 2) = (D : Int) + 2 := IntWalk.i64_in _ (by omega)
  have y2 : ((D : Int) + 2) / 256 = 0 := by omega
  have HS := Lib.hid (And.intro hbt hbd)
  clear hW4 HM HT HW3 HBT hbt hbd hok hcf TR HML HG3 hA1 hE HOK
  have hD4 : ([255, bt, 0, bd] : List UInt8).length + d.length ≤ 1000000 := by rw [HDD.out]; simp; omega
  go_upto_region 9 with (at_builtin; go_must (refine wpList_app rfl (.tmp 39) (.tmp 40) rfl w4.heap.size _ [255, bt, 0, bd] d rfl (BV.four w4 255 bt 0 bd _ rfl) _ rfl (HDV4.out.keep ((Below.refl _ _).alloc (Nat.le_refl _) _)) hD4 (by simp) ?_; intro v5 w5 ho5 hb5 hg5; obtain ⟨L5, hL5⟩ : ∃ L, [255, bt, 0, bd] ++ d = L := ⟨_, rfl⟩; rw [hL5] at ho5; have HL5 := Lib.hid hL5; clear hL5; obtain ⟨n5, hn5⟩ : ∃ n, L5.length = n := ⟨_, rfl⟩; rw [hn5] at ho5; have HN5 := Lib.hid hn5; clear hn5; obtain ⟨a5, c5, rfl⟩ := owns_slice ho5))
  have hb45 : Below w4.heap.size w4 w5 := ((Below.refl _ _).alloc (Nat.le_refl _) _).trans hb5
  have hcap := slice_cap ho5
  have hbv5 := BV.ofn ho5 HN5.out
  have hn5 : 4 ≤ n5 := by rw [← HN5.out, ← HL5.out]; simp
  have H5 := Lib.hid (And.intro hbv5 (And.intro hb45 ho5))
  clear hb5 hg5 ho5 hbv5 hb45 hbt2 hbd2 y1 y2 hD4
  have z2 : (2 : Int) ≤ (c5 : Int) := by omega
  have hw5 : Below w.heap.size w w5 := HW4.out.trans (H5.out.2.1.mono HW4.out.size)
  have hMN : M.length + 300 ≤ 1000000 := by have := HML2.out; rw [HMM.out] at this; omega
  have hsl : (segT t d).length ≤ 104 := by
    unfold segT
    have := HDD.out
    split
    · simp
    · simp
      omega
  obtain ⟨e, hd2, l2, hall, say⟩ := segs_say (sizOk_of HOK2.out) (by have := HOK2.out.n4; omega) HOK2.out.par.fit (frame_ok HOK2.out) t ht3 d (by rw [HDD.out]; exact h100) tw
  have hll2 := hall.len
  rw [HMM.out] at hall say hll2
  have HB5 := Lib.hid (HBM.out.keep H5.out.2.1)
  have HW5 := Lib.hid hw5
  have HSL := Lib.hid (And.intro hsl hMN)
  have HSAY := Lib.hid say
  have HALL := Lib.hid (And.intro hall hll2)
  clear hw5 hMN hsl say hall hll2
  have hq : (bareT t = true ∧ 48 ≤ t ∧ t ≤ 63) ∨ (bareT t = false ∧ t < 48) ∨ (bareT t = false ∧ 63 < t) := by
    unfold bareT
    simp
    omega
  obtain ⟨vs, hvs, hkk⟩ : ∃ vs, BV w5 vs (segT t d) ∧ ((bareT t = true ∧ 48 ≤ t ∧ t ≤ 63 ∧ vs = .slice a5 2 c5) ∨ (bareT t = false ∧ vs = .slice a5 n5 c5 ∧ (t < 48 ∨ 63 < t))) := by
    rcases hq with ⟨hb, h1, h2⟩ | hq
    · have e : segT t d = L5.take 2 := by
        unfold segT
        rw [hb, ← HL5.out, ← HS.out.1]
        rfl
      have h3 := H5.out.1
      rw [← HN5.out] at h3
      exact ⟨_, by rw [e]; exact h3.front 2 (by rw [HN5.out]; omega), .inl ⟨hb, h1, h2, rfl⟩⟩
    · have hb0 : bareT t = false := by rcases hq with h | h <;> exact h.1
      have e : segT t d = L5 := by
        unfold segT
        rw [hb0, ← HL5.out, ← HS.out.1, ← HS.out.2, HDD.out]
        rfl
      exact ⟨_, by rw [e]; exact H5.out.1, .inr ⟨hb0, rfl, by omega⟩⟩
  have HVS := Lib.hid hvs
  have hsv : ∃ a n c, vs = .slice a n c := by
    obtain ⟨A', c', h, -⟩ := hvs
    exact ⟨_, _, _, h⟩
  clear hvs hq
  have HSV := Lib.hid hsv
  clear hsv
  have hXL : (M ++ (segsT t d tw ++ [255, 144])).length = M.length + (segsT t d tw).length + 2 := by simp [List.length_append]; omega
  have PP : Hid (∀ (W : World) (v : Value), BV W v (M ++ (segsT t d tw ++ [255, 144])) → Calls Try.prog 16 #[v] W fun r w' => ∃ A nn, Head1 A ∧ r = .returned (.tuple #[.agg A, .int .i64 nn, .int .i64 e]) ∧ Below W.heap.size W w' ∧ (e = 0 → nn = ((M ++ (segsT t d tw ++ [255, 144])).length : Int) - l2.length - 2 ∧ ∃ cv mv, headA (imgH hd2) cv hd2.p mv = A ∧ BV w' mv hd2.com)) := Lib.hid fun W v hb => parse_both v _ l2 e hd2 W hb (by rw [hXL]; have := HSL.out; unfold segsT; cases tw <;> simp <;> omega) HALL.out.1
  have HXL := Lib.hid hXL
  clear hXL
  rcases hkk with ⟨hb, h1, h2, h3⟩ | ⟨hb, h3, h12 | h12⟩
  · have q1 : decide ((48 : Int) ≤ (t : Int)) = true := by simp; omega
    have q2 : decide ((t : Int) ≤ 63) = true := by simp; omega
    go_upto_region 11 with fail
    simp only [← h3]
    clear h3 q1 q2 z2 H5
    obtain ⟨sva, svn, svc, rfl⟩ := HSV.out
    go_upto_region 12 with (first | (at_builtin; (refine wpList_app rfl (.tmp 52) (.tmp 53) rfl w5.heap.size _ M (segT t d) rfl H6.out.1 _ rfl (HVS.out.keep H6.out.2) (by have := HSL.out; omega) H6.out.2.size ?_; intro v7 w7 ho7 hb7 hg7; obtain ⟨X7, hX7⟩ : ∃ X, M ++ segT t d = X := ⟨_, rfl⟩; rw [hX7] at ho7; obtain ⟨n7, hn7⟩ : ∃ n, X7.length = n := ⟨_, rfl⟩; rw [hn7] at ho7; have HX7 := Lib.hid (And.intro hX7 hn7); clear hX7 hn7; obtain ⟨a7, c7, rfl⟩ := owns_slice ho7; have H7 := Lib.hid (And.intro ho7 (H6.out.2.trans hb7)); clear ho7 hb7 hg7)) | (at_builtin; go_must (refine wpList_app rfl (.tmp 50) (.tmp 51) rfl w5.heap.size _ [] M rfl (own_lit w5 #[] 5 0 _ rfl rfl (Nat.le_refl _) (by decide)) _ rfl (HB5.out.keep ((Below.refl _ _).alloc (Nat.le_refl _) (.cells #[] 5))) (by have := HSL.out; simp; omega) (by simp) ?_; intro v6 w6 ho6 hb6 hg6; rw [List.nil_append] at ho6; obtain ⟨a6, n6, c6, rfl⟩ := owns_isSlice ho6; have H6 := Lib.hid (And.intro ho6 (((Below.refl w5.heap.size w5).alloc (Nat.le_refl _) (.cells #[] 5)).trans hb6)); clear ho6 hb6 hg6)))
    cases tw
    ·
      have HXX : Hid (X7 ++ [255, 144] = M ++ (segsT t d false ++ [255, 144])) := Lib.hid (by rw [← HX7.out.1]; simp [segsT])
      have HNX := Lib.hid HX7.out.2
      have hnb : n7 ≤ 999950 := by
        have h9 := HX7.out.2
        rw [← h9, ← HX7.out.1]
        have := HSL.out
        simp only [List.length_append]
        omega
      go_upto_region 15 with (first | (at_builtin; go_must (refine wpList_app rfl (.tmp 60) (.tmp 61) rfl w5.heap.size _ X7 [255, 144] rfl (World.ownsRow.alloc (by rw [HX7.out.2]; exact H7.out.1) _) _ rfl (BV.two w7 255 144 _ rfl) (by rw [HX7.out.2]; simp; omega) (by have := H7.out.2.size; simp; omega) ?_; intro v8 w8 ho8 hb8 hg8; have HBV8 := Lib.hid (BV.of_owns ho8); obtain ⟨n8, hn8⟩ : ∃ n, (X7 ++ [255, 144]).length = n := ⟨_, rfl⟩; rw [hn8] at ho8; have HN8 := Lib.hid hn8; clear hn8; obtain ⟨a8, c8, rfl⟩ := owns_slice ho8; have HB8 := Lib.hid ((H7.out.2.alloc H7.out.2.size _).trans hb8); clear ho8 hb8 hg8)) | (go_at_call 16; refine (PP.out _ _ (by rw [← HXX.out]; exact HBV8.out)).mono ?_; rintro r wb ⟨A1, nn, hA1, rfl, hB10, hp1⟩; have hA1' := hA1.1; have hst1 := store_head hA1; have HP1 := Lib.hid (And.intro hA1 (And.intro hB10 hp1)); clear hA1 hB10 hp1))
      obtain ⟨w9', hw9⟩ : ∃ w9', w9' = newHead wb A1 := ⟨_, rfl⟩
      have hb9 : Blk w9' wb.heap.size 33 A1 := by rw [hw9]; exact newHead_blk wb HP1.out.1
      have hbb9 : Below wb.heap.size wb w9' := by rw [hw9]; exact newHead_below wb A1
      simp only [← hw9]
      clear hw9 hst1
      have h58 : Below w.heap.size w w8 := HW5.out.trans (HB8.out.mono HW5.out.size)
      have h5b := h58.trans (HP1.out.2.1.mono h58.size)
      have HW9 := Lib.hid (h5b.trans (hbb9.mono h5b.size))
      have HBB9 := Lib.hid hbb9
      clear hbb9 h58 h5b HB8
      obtain ⟨NX, hNX2⟩ : ∃ NX, NX = n7 := ⟨_, rfl⟩
      rw [← hNX2] at HNX
      simp only [← hNX2]
      clear hNX2 hnb
      have w1 : isWayT t = false := by unfold isWayT; simp; omega
      have w2 : isBadT t = false := by unfold isBadT; simp; omega
      obtain ⟨he0, hcom, hl20⟩ := HSAY.out.els w1 w2 (by omega) (by omega) (by omega) (by omega)
      subst he0
      obtain ⟨hnn, cv, mv, hE1, hmv⟩ := HP1.out.2.2 rfl
      have hnX : nn = (NX : Int) := by rw [hnn, ← HXX.out, hl20, List.length_append, HNX.out]; simp
      rw [hcom] at hmv
      obtain ⟨ma, mc, rfl, -⟩ := hmv
      rw [← hE1] at hb9
      have k17 : w9'.cell? ⟨wb.heap.size, 17, none⟩ = some (.slice ma 0 mc) := hb9.cell 17
      clear hnn hl20 hE1 hb9 HP1
      subst hnX
      have f83 : ((t : Int) == 83) = false := by simp; omega
      have f93 : ((t : Int) == 93) = false := by simp; omega
      have f94 : ((t : Int) == 94) = false := by simp; omega
      have f95 : ((t : Int) == 95) = false := by simp; omega
      have f96 : ((t : Int) == 96) = false := by simp; omega
      have f97 : ((t : Int) == 97) = false := by simp; omega
      have f79 : ((t : Int) == 79) = false := by simp; omega
      have f81 : ((t : Int) == 81) = false := by simp; omega
      have f145 : ((t : Int) == 145) = false := by simp; omega
      have f146 : ((t : Int) == 146) = false := by simp; omega
      have f147 : ((t : Int) == 147) = false := by simp; omega
      have f217 : ((t : Int) == 217) = false := by simp; omega
      have f82 : ((t : Int) == 82) = false := by simp; omega
      have f92 : ((t : Int) == 92) = false := by simp; omega
      have f144 : ((t : Int) == 144) = false := by simp; omega
      have f100 : ((t : Int) == 100) = false := by simp; omega
      go_wp2_with fail
      go_ret
      exact ⟨rfl, HW9.out⟩
    ·
      go_upto_region 14 with (at_builtin; go_must (refine wpList_app rfl (.tmp 56) (.tmp 57) rfl w5.heap.size _ X7 (segT t d) rfl (by rw [HX7.out.2]; exact H7.out.1) _ rfl (HVS.out.keep H7.out.2) (by have := HSL.out; have h9 := HX7.out.1; rw [← h9, List.length_append]; omega) H7.out.2.size ?_; intro v9 w9 ho9 hb9 hg9; obtain ⟨X9, hX9⟩ : ∃ X, X7 ++ segT t d = X := ⟨_, rfl⟩; rw [hX9] at ho9; obtain ⟨n9, hn9⟩ : ∃ n, X9.length = n := ⟨_, rfl⟩; rw [hn9] at ho9; have HX9 := Lib.hid (And.intro hX9 hn9); clear hX9 hn9; obtain ⟨a9, c9, rfl⟩ := owns_slice ho9; have H9 := Lib.hid (And.intro ho9 (H7.out.2.trans hb9)); clear ho9 hb9 hg9))
      have HXX : Hid (X9 ++ [255, 144] = M ++ (segsT t d true ++ [255, 144])) := Lib.hid (by rw [← HX9.out.1, ← HX7.out.1]; simp [segsT])
      have HNX := Lib.hid HX9.out.2
      have hnb : n9 ≤ 999950 := by
        have h9 := HX9.out.2
        rw [← h9, ← HX9.out.1, ← HX7.out.1]
        have := HSL.out
        simp only [List.length_append]
        omega
      go_upto_region 15 with (first | (at_builtin; go_must (refine wpList_app rfl (.tmp 60) (.tmp 61) rfl w5.heap.size _ X9 [255, 144] rfl (World.ownsRow.alloc (by rw [HX9.out.2]; exact H9.out.1) _) _ rfl (BV.two w9 255 144 _ rfl) (by rw [HX9.out.2]; simp; omega) (by have := H9.out.2.size; simp; omega) ?_; intro v8 w8 ho8 hb8 hg8; have HBV8 := Lib.hid (BV.of_owns ho8); obtain ⟨n8, hn8⟩ : ∃ n, (X9 ++ [255, 144]).length = n := ⟨_, rfl⟩; rw [hn8] at ho8; have HN8 := Lib.hid hn8; clear hn8; obtain ⟨a8, c8, rfl⟩ := owns_slice ho8; have HB8 := Lib.hid ((H9.out.2.alloc H9.out.2.size _).trans hb8); clear ho8 hb8 hg8)) | (go_at_call 16; refine (PP.out _ _ (by rw [← HXX.out]; exact HBV8.out)).mono ?_; rintro r wb ⟨A1, nn, hA1, rfl, hB10, hp1⟩; have hA1' := hA1.1; have hst1 := store_head hA1; have HP1 := Lib.hid (And.intro hA1 (And.intro hB10 hp1)); clear hA1 hB10 hp1))
      obtain ⟨w9', hw9⟩ : ∃ w9', w9' = newHead wb A1 := ⟨_, rfl⟩
      have hb9 : Blk w9' wb.heap.size 33 A1 := by rw [hw9]; exact newHead_blk wb HP1.out.1
      have hbb9 : Below wb.heap.size wb w9' := by rw [hw9]; exact newHead_below wb A1
      simp only [← hw9]
      clear hw9 hst1
      have h58 : Below w.heap.size w w8 := HW5.out.trans (HB8.out.mono HW5.out.size)
      have h5b := h58.trans (HP1.out.2.1.mono h58.size)
      have HW9 := Lib.hid (h5b.trans (hbb9.mono h5b.size))
      have HBB9 := Lib.hid hbb9
      clear hbb9 h58 h5b HB8
      obtain ⟨NX, hNX2⟩ : ∃ NX, NX = n9 := ⟨_, rfl⟩
      rw [← hNX2] at HNX
      simp only [← hNX2]
      clear hNX2 hnb
      have w1 : isWayT t = false := by unfold isWayT; simp; omega
      have w2 : isBadT t = false := by unfold isBadT; simp; omega
      obtain ⟨he0, hcom, hl20⟩ := HSAY.out.els w1 w2 (by omega) (by omega) (by omega) (by omega)
      subst he0
      obtain ⟨hnn, cv, mv, hE1, hmv⟩ := HP1.out.2.2 rfl
      have hnX : nn = (NX : Int) := by rw [hnn, ← HXX.out, hl20, List.length_append, HNX.out]; simp
      rw [hcom] at hmv
      obtain ⟨ma, mc, rfl, -⟩ := hmv
      rw [← hE1] at hb9
      have k17 : w9'.cell? ⟨wb.heap.size, 17, none⟩ = some (.slice ma 0 mc) := hb9.cell 17
      clear hnn hl20 hE1 hb9 HP1
      subst hnX
      have f83 : ((t : Int) == 83) = false := by simp; omega
      have f93 : ((t : Int) == 93) = false := by simp; omega
      have f94 : ((t : Int) == 94) = false := by simp; omega
      have f95 : ((t : Int) == 95) = false := by simp; omega
      have f96 : ((t : Int) == 96) = false := by simp; omega
      have f97 : ((t : Int) == 97) = false := by simp; omega
      have f79 : ((t : Int) == 79) = false := by simp; omega
      have f81 : ((t : Int) == 81) = false := by simp; omega
      have f145 : ((t : Int) == 145) = false := by simp; omega
      have f146 : ((t : Int) == 146) = false := by simp; omega
      have f147 : ((t : Int) == 147) = false := by simp; omega
      have f217 : ((t : Int) == 217) = false := by simp; omega
      have f82 : ((t : Int) == 82) = false := by simp; omega
      have f92 : ((t : Int) == 92) = false := by simp; omega
      have f144 : ((t : Int) == 144) = false := by simp; omega
      have f100 : ((t : Int) == 100) = false := by simp; omega
      go_wp2_with fail
      go_ret
      exact ⟨rfl, HW9.out⟩
  · have q1 : decide ((48 : Int) ≤ (t : Int)) = false := by simp; omega
    go_upto_region 11 with fail
    simp only [← h3]
    clear h3 q1 z2 H5
    obtain ⟨sva, svn, svc, rfl⟩ := HSV.out
    go_upto_region 12 with (first | (at_builtin; (refine wpList_app rfl (.tmp 52) (.tmp 53) rfl w5.heap.size _ M (segT t d) rfl H6.out.1 _ rfl (HVS.out.keep H6.out.2) (by have := HSL.out; omega) H6.out.2.size ?_; intro v7 w7 ho7 hb7 hg7; obtain ⟨X7, hX7⟩ : ∃ X, M ++ segT t d = X := ⟨_, rfl⟩; rw [hX7] at ho7; obtain ⟨n7, hn7⟩ : ∃ n, X7.length = n := ⟨_, rfl⟩; rw [hn7] at ho7; have HX7 := Lib.hid (And.intro hX7 hn7); clear hX7 hn7; obtain ⟨a7, c7, rfl⟩ := owns_slice ho7; have H7 := Lib.hid (And.intro ho7 (H6.out.2.trans hb7)); clear ho7 hb7 hg7)) | (at_builtin; go_must (refine wpList_app rfl (.tmp 50) (.tmp 51) rfl w5.heap.size _ [] M rfl (own_lit w5 #[] 5 0 _ rfl rfl (Nat.le_refl _) (by decide)) _ rfl (HB5.out.keep ((Below.refl _ _).alloc (Nat.le_refl _) (.cells #[] 5))) (by have := HSL.out; simp; omega) (by simp) ?_; intro v6 w6 ho6 hb6 hg6; rw [List.nil_append] at ho6; obtain ⟨a6, n6, c6, rfl⟩ := owns_isSlice ho6; have H6 := Lib.hid (And.intro ho6 (((Below.refl w5.heap.size w5).alloc (Nat.le_refl _) (.cells #[] 5)).trans hb6)); clear ho6 hb6 hg6)))
    cases tw
    ·
      have HXX : Hid (X7 ++ [255, 144] = M ++ (segsT t d false ++ [255, 144])) := Lib.hid (by rw [← HX7.out.1]; simp [segsT])
      have HNX := Lib.hid HX7.out.2
      have hnb : n7 ≤ 999950 := by
        have h9 := HX7.out.2
        rw [← h9, ← HX7.out.1]
        have := HSL.out
        simp only [List.length_append]
        omega
      go_upto_region 15 with (first | (at_builtin; go_must (refine wpList_app rfl (.tmp 60) (.tmp 61) rfl w5.heap.size _ X7 [255, 144] rfl (World.ownsRow.alloc (by rw [HX7.out.2]; exact H7.out.1) _) _ rfl (BV.two w7 255 144 _ rfl) (by rw [HX7.out.2]; simp; omega) (by have := H7.out.2.size; simp; omega) ?_; intro v8 w8 ho8 hb8 hg8; have HBV8 := Lib.hid (BV.of_owns ho8); obtain ⟨n8, hn8⟩ : ∃ n, (X7 ++ [255, 144]).length = n := ⟨_, rfl⟩; rw [hn8] at ho8; have HN8 := Lib.hid hn8; clear hn8; obtain ⟨a8, c8, rfl⟩ := owns_slice ho8; have HB8 := Lib.hid ((H7.out.2.alloc H7.out.2.size _).trans hb8); clear ho8 hb8 hg8)) | (go_at_call 16; refine (PP.out _ _ (by rw [← HXX.out]; exact HBV8.out)).mono ?_; rintro r wb ⟨A1, nn, hA1, rfl, hB10, hp1⟩; have hA1' := hA1.1; have hst1 := store_head hA1; have HP1 := Lib.hid (And.intro hA1 (And.intro hB10 hp1)); clear hA1 hB10 hp1))
      obtain ⟨w9', hw9⟩ : ∃ w9', w9' = newHead wb A1 := ⟨_, rfl⟩
      have hb9 : Blk w9' wb.heap.size 33 A1 := by rw [hw9]; exact newHead_blk wb HP1.out.1
      have hbb9 : Below wb.heap.size wb w9' := by rw [hw9]; exact newHead_below wb A1
      simp only [← hw9]
      clear hw9 hst1
      have h58 : Below w.heap.size w w8 := HW5.out.trans (HB8.out.mono HW5.out.size)
      have h5b := h58.trans (HP1.out.2.1.mono h58.size)
      have HW9 := Lib.hid (h5b.trans (hbb9.mono h5b.size))
      have HBB9 := Lib.hid hbb9
      clear hbb9 h58 h5b HB8
      obtain ⟨NX, hNX2⟩ : ∃ NX, NX = n7 := ⟨_, rfl⟩
      rw [← hNX2] at HNX
      simp only [← hNX2]
      clear hNX2 hnb
      have w1 : isWayT t = false := by unfold isWayT; simp; omega
      have w2 : isBadT t = false := by unfold isBadT; simp; omega
      obtain ⟨he0, hcom, hl20⟩ := HSAY.out.els w1 w2 (by omega) (by omega) (by omega) (by omega)
      subst he0
      obtain ⟨hnn, cv, mv, hE1, hmv⟩ := HP1.out.2.2 rfl
      have hnX : nn = (NX : Int) := by rw [hnn, ← HXX.out, hl20, List.length_append, HNX.out]; simp
      rw [hcom] at hmv
      obtain ⟨ma, mc, rfl, -⟩ := hmv
      rw [← hE1] at hb9
      have k17 : w9'.cell? ⟨wb.heap.size, 17, none⟩ = some (.slice ma 0 mc) := hb9.cell 17
      clear hnn hl20 hE1 hb9 HP1
      subst hnX
      have f83 : ((t : Int) == 83) = false := by simp; omega
      have f93 : ((t : Int) == 93) = false := by simp; omega
      have f94 : ((t : Int) == 94) = false := by simp; omega
      have f95 : ((t : Int) == 95) = false := by simp; omega
      have f96 : ((t : Int) == 96) = false := by simp; omega
      have f97 : ((t : Int) == 97) = false := by simp; omega
      have f79 : ((t : Int) == 79) = false := by simp; omega
      have f81 : ((t : Int) == 81) = false := by simp; omega
      have f145 : ((t : Int) == 145) = false := by simp; omega
      have f146 : ((t : Int) == 146) = false := by simp; omega
      have f147 : ((t : Int) == 147) = false := by simp; omega
      have f217 : ((t : Int) == 217) = false := by simp; omega
      have f82 : ((t : Int) == 82) = false := by simp; omega
      have f92 : ((t : Int) == 92) = false := by simp; omega
      have f144 : ((t : Int) == 144) = false := by simp; omega
      have f100 : ((t : Int) == 100) = false := by simp; omega
      go_wp2_with fail
      go_ret
      exact ⟨rfl, HW9.out⟩
    ·
      go_upto_region 14 with (at_builtin; go_must (refine wpList_app rfl (.tmp 56) (.tmp 57) rfl w5.heap.size _ X7 (segT t d) rfl (by rw [HX7.out.2]; exact H7.out.1) _ rfl (HVS.out.keep H7.out.2) (by have := HSL.out; have h9 := HX7.out.1; rw [← h9, List.length_append]; omega) H7.out.2.size ?_; intro v9 w9 ho9 hb9 hg9; obtain ⟨X9, hX9⟩ : ∃ X, X7 ++ segT t d = X := ⟨_, rfl⟩; rw [hX9] at ho9; obtain ⟨n9, hn9⟩ : ∃ n, X9.length = n := ⟨_, rfl⟩; rw [hn9] at ho9; have HX9 := Lib.hid (And.intro hX9 hn9); clear hX9 hn9; obtain ⟨a9, c9, rfl⟩ := owns_slice ho9; have H9 := Lib.hid (And.intro ho9 (H7.out.2.trans hb9)); clear ho9 hb9 hg9))
      have HXX : Hid (X9 ++ [255, 144] = M ++ (segsT t d true ++ [255, 144])) := Lib.hid (by rw [← HX9.out.1, ← HX7.out.1]; simp [segsT])
      have HNX := Lib.hid HX9.out.2
      have hnb : n9 ≤ 999950 := by
        have h9 := HX9.out.2
        rw [← h9, ← HX9.out.1, ← HX7.out.1]
        have := HSL.out
        simp only [List.length_append]
        omega
      go_upto_region 15 with (first | (at_builtin; go_must (refine wpList_app rfl (.tmp 60) (.tmp 61) rfl w5.heap.size _ X9 [255, 144] rfl (World.ownsRow.alloc (by rw [HX9.out.2]; exact H9.out.1) _) _ rfl (BV.two w9 255 144 _ rfl) (by rw [HX9.out.2]; simp; omega) (by have := H9.out.2.size; simp; omega) ?_; intro v8 w8 ho8 hb8 hg8; have HBV8 := Lib.hid (BV.of_owns ho8); obtain ⟨n8, hn8⟩ : ∃ n, (X9 ++ [255, 144]).length = n := ⟨_, rfl⟩; rw [hn8] at ho8; have HN8 := Lib.hid hn8; clear hn8; obtain ⟨a8, c8, rfl⟩ := owns_slice ho8; have HB8 := Lib.hid ((H9.out.2.alloc H9.out.2.size _).trans hb8); clear ho8 hb8 hg8)) | (go_at_call 16; refine (PP.out _ _ (by rw [← HXX.out]; exact HBV8.out)).mono ?_; rintro r wb ⟨A1, nn, hA1, rfl, hB10, hp1⟩; have hA1' := hA1.1; have hst1 := store_head hA1; have HP1 := Lib.hid (And.intro hA1 (And.intro hB10 hp1)); clear hA1 hB10 hp1))
      obtain ⟨w9', hw9⟩ : ∃ w9', w9' = newHead wb A1 := ⟨_, rfl⟩
      have hb9 : Blk w9' wb.heap.size 33 A1 := by rw [hw9]; exact newHead_blk wb HP1.out.1
      have hbb9 : Below wb.heap.size wb w9' := by rw [hw9]; exact newHead_below wb A1
      simp only [← hw9]
      clear hw9 hst1
      have h58 : Below w.heap.size w w8 := HW5.out.trans (HB8.out.mono HW5.out.size)
      have h5b := h58.trans (HP1.out.2.1.mono h58.size)
      have HW9 := Lib.hid (h5b.trans (hbb9.mono h5b.size))
      have HBB9 := Lib.hid hbb9
      clear hbb9 h58 h5b HB8
      obtain ⟨NX, hNX2⟩ : ∃ NX, NX = n9 := ⟨_, rfl⟩
      rw [← hNX2] at HNX
      simp only [← hNX2]
      clear hNX2 hnb
      have w1 : isWayT t = false := by unfold isWayT; simp; omega
      have w2 : isBadT t = false := by unfold isBadT; simp; omega
      obtain ⟨he0, hcom, hl20⟩ := HSAY.out.els w1 w2 (by omega) (by omega) (by omega) (by omega)
      subst he0
      obtain ⟨hnn, cv, mv, hE1, hmv⟩ := HP1.out.2.2 rfl
      have hnX : nn = (NX : Int) := by rw [hnn, ← HXX.out, hl20, List.length_append, HNX.out]; simp
      rw [hcom] at hmv
      obtain ⟨ma, mc, rfl, -⟩ := hmv
      rw [← hE1] at hb9
      have k17 : w9'.cell? ⟨wb.heap.size, 17, none⟩ = some (.slice ma 0 mc) := hb9.cell 17
      clear hnn hl20 hE1 hb9 HP1
      subst hnX
      have f83 : ((t : Int) == 83) = false := by simp; omega
      have f93 : ((t : Int) == 93) = false := by simp; omega
      have f94 : ((t : Int) == 94) = false := by simp; omega
      have f95 : ((t : Int) == 95) = false := by simp; omega
      have f96 : ((t : Int) == 96) = false := by simp; omega
      have f97 : ((t : Int) == 97) = false := by simp; omega
      have f79 : ((t : Int) == 79) = false := by simp; omega
      have f81 : ((t : Int) == 81) = false := by simp; omega
      have f145 : ((t : Int) == 145) = false := by simp; omega
      have f146 : ((t : Int) == 146) = false := by simp; omega
      have f147 : ((t : Int) == 147) = false := by simp; omega
      have f217 : ((t : Int) == 217) = false := by simp; omega
      have f82 : ((t : Int) == 82) = false := by simp; omega
      have f92 : ((t : Int) == 92) = false := by simp; omega
      have f144 : ((t : Int) == 144) = false := by simp; omega
      have f100 : ((t : Int) == 100) = false := by simp; omega
      go_wp2_with fail
      go_ret
      exact ⟨rfl, HW9.out⟩
  · have q1 : decide ((48 : Int) ≤ (t : Int)) = true := by simp; omega
    have q2 : decide ((t : Int) ≤ 63) = false := by simp; omega
    go_upto_region 11 with fail
    simp only [← h3]
    clear h3 q1 q2 z2 H5
    obtain ⟨sva, svn, svc, rfl⟩ := HSV.out
    go_upto_region 12 with (first | (at_builtin; (refine wpList_app rfl (.tmp 52) (.tmp 53) rfl w5.heap.size _ M (segT t d) rfl H6.out.1 _ rfl (HVS.out.keep H6.out.2) (by have := HSL.out; omega) H6.out.2.size ?_; intro v7 w7 ho7 hb7 hg7; obtain ⟨X7, hX7⟩ : ∃ X, M ++ segT t d = X := ⟨_, rfl⟩; rw [hX7] at ho7; obtain ⟨n7, hn7⟩ : ∃ n, X7.length = n := ⟨_, rfl⟩; rw [hn7] at ho7; have HX7 := Lib.hid (And.intro hX7 hn7); clear hX7 hn7; obtain ⟨a7, c7, rfl⟩ := owns_slice ho7; have H7 := Lib.hid (And.intro ho7 (H6.out.2.trans hb7)); clear ho7 hb7 hg7)) | (at_builtin; go_must (refine wpList_app rfl (.tmp 50) (.tmp 51) rfl w5.heap.size _ [] M rfl (own_lit w5 #[] 5 0 _ rfl rfl (Nat.le_refl _) (by decide)) _ rfl (HB5.out.keep ((Below.refl _ _).alloc (Nat.le_refl _) (.cells #[] 5))) (by have := HSL.out; simp; omega) (by simp) ?_; intro v6 w6 ho6 hb6 hg6; rw [List.nil_append] at ho6; obtain ⟨a6, n6, c6, rfl⟩ := owns_isSlice ho6; have H6 := Lib.hid (And.intro ho6 (((Below.refl w5.heap.size w5).alloc (Nat.le_refl _) (.cells #[] 5)).trans hb6)); clear ho6 hb6 hg6)))
    cases tw
    ·
      have HXX : Hid (X7 ++ [255, 144] = M ++ (segsT t d false ++ [255, 144])) := Lib.hid (by rw [← HX7.out.1]; simp [segsT])
      have HNX := Lib.hid HX7.out.2
      have hnb : n7 ≤ 999950 := by
        have h9 := HX7.out.2
        rw [← h9, ← HX7.out.1]
        have := HSL.out
        simp only [List.length_append]
        omega
      go_upto_region 15 with (first | (at_builtin; go_must (refine wpList_app rfl (.tmp 60) (.tmp 61) rfl w5.heap.size _ X7 [255, 144] rfl (World.ownsRow.alloc (by rw [HX7.out.2]; exact H7.out.1) _) _ rfl (BV.two w7 255 144 _ rfl) (by rw [HX7.out.2]; simp; omega) (by have := H7.out.2.size; simp; omega) ?_; intro v8 w8 ho8 hb8 hg8; have HBV8 := Lib.hid (BV.of_owns ho8); obtain ⟨n8, hn8⟩ : ∃ n, (X7 ++ [255, 144]).length = n := ⟨_, rfl⟩; rw [hn8] at ho8; have HN8 := Lib.hid hn8; clear hn8; obtain ⟨a8, c8, rfl⟩ := owns_slice ho8; have HB8 := Lib.hid ((H7.out.2.alloc H7.out.2.size _).trans hb8); clear ho8 hb8 hg8)) | (go_at_call 16; refine (PP.out _ _ (by rw [← HXX.out]; exact HBV8.out)).mono ?_; rintro r wb ⟨A1, nn, hA1, rfl, hB10, hp1⟩; have hA1' := hA1.1; have hst1 := store_head hA1; have HP1 := Lib.hid (And.intro hA1 (And.intro hB10 hp1)); clear hA1 hB10 hp1))
      obtain ⟨w9', hw9⟩ : ∃ w9', w9' = newHead wb A1 := ⟨_, rfl⟩
      have hb9 : Blk w9' wb.heap.size 33 A1 := by rw [hw9]; exact newHead_blk wb HP1.out.1
      have hbb9 : Below wb.heap.size wb w9' := by rw [hw9]; exact newHead_below wb A1
      simp only [← hw9]
      clear hw9 hst1
      have h58 : Below w.heap.size w w8 := HW5.out.trans (HB8.out.mono HW5.out.size)
      have h5b := h58.trans (HP1.out.2.1.mono h58.size)
      have HW9 := Lib.hid (h5b.trans (hbb9.mono h5b.size))
      have HBB9 := Lib.hid hbb9
      clear hbb9 h58 h5b HB8
      obtain ⟨NX, hNX2⟩ : ∃ NX, NX = n7 := ⟨_, rfl⟩
      rw [← hNX2] at HNX
      simp only [← hNX2]
      clear hNX2 hnb
      have hcls : isWayT t = true ∨ isBadT t = true ∨ (t = 82 ∨ t = 92) ∨ t = 144 ∨ t = 100 ∨ (isWayT t = false ∧ isBadT t = false ∧ t ≠ 82 ∧ t ≠ 92 ∧ t ≠ 144 ∧ t ≠ 100) := by
        cases isWayT t <;> cases isBadT t <;> simp <;> omega
      rcases hcls with hw | hb' | h2 | h144 | h100' | ⟨w1, w2, n1, n2, n3, n4⟩
      · have he := HSAY.out.way hw
        subst he
        have ht : t = 83 ∨ t = 93 ∨ t = 94 ∨ t = 95 ∨ t = 96 ∨ t = 97 := by unfold isWayT at hw; simpa [or_assoc] using hw
        clear hb9 HP1 HSAY HALL PP HXL
        rcases ht with rfl | rfl | rfl | rfl | rfl | rfl
        all_goals
          go_wp2_with fail
          go_ret
          exact ⟨rfl, HW9.out⟩
      · have he := HSAY.out.bad hb'
        subst he
        have ht : t = 79 ∨ t = 81 ∨ t = 145 ∨ t = 146 ∨ t = 147 ∨ t = 217 := by unfold isBadT at hb'; simpa [or_assoc] using hb'
        clear hb9 HP1 HSAY HALL PP HXL
        rcases ht with rfl | rfl | rfl | rfl | rfl | rfl
        all_goals
          go_wp2_with fail
          go_ret
          exact ⟨rfl, HW9.out⟩
      · have he := HSAY.out.two h2
        subst he
        clear hb9 HP1 HSAY HALL PP HXL
        rcases h2 with rfl | rfl
        all_goals
          go_wp2_with fail
          go_ret
          exact ⟨rfl, HW9.out⟩
      · obtain ⟨he, hl⟩ := HSAY.out.sot h144
        subst he
        obtain ⟨hnn, -⟩ := HP1.out.2.2 rfl
        have hnX : nn = (N : Int) := by rw [hnn]; have := HN.out; omega
        subst hnX
        subst h144
        clear hb9 HP1 HSAY HALL PP HXL hnn hl
        go_wp2_with fail
        go_ret
        exact ⟨rfl, HW9.out⟩
      · subst h100'
        by_cases hd2 : d.length < 2
        · have he := HSAY.out.com rfl hd2
          subst he
          have dD : decide ((D : Int) < 2) = true := by have := HDD.out; simp; omega
          clear hb9 HP1 HSAY HALL PP HXL hd2
          go_wp2_with fail
          go_ret
          exact ⟨rfl, HW9.out⟩
        · obtain ⟨he, hcom, hl20⟩ := HSAY.out.rem rfl (by omega)
          subst he
          obtain ⟨hnn, cv, mv, hE1, hmv⟩ := HP1.out.2.2 rfl
          have hnX : nn = (NX : Int) := by rw [hnn, ← HXX.out, hl20, List.length_append, HNX.out]; simp
          rw [hcom] at hmv
          have hmv9 := hmv.keep HBB9.out
          have hdl : (d.drop 2).length = D - 2 := by rw [List.length_drop, HDD.out]
          have hD2 : 2 ≤ D := by have := HDD.out; omega
          obtain ⟨ma, mc, rfl, -⟩ := hmv
          rw [hdl] at hmv9 hE1
          rw [← hE1] at hb9
          have k17 : w9'.cell? ⟨wb.heap.size, 17, none⟩ = some (.slice ma (D - 2) mc) := hb9.cell 17
          have hdv9 := HDV.out.keep HW9.out
          obtain ⟨db, do_, rfl⟩ := hdv9.addr (by omega)
          have hdm := hdv9.mid 2 D hD2 (Nat.le_refl _)
          rw [List.take_of_length_le (by rw [hdl]; exact Nat.le_refl _)] at hdm
          have hdc : D ≤ dc := by obtain ⟨_, _, e9, h9, _⟩ := hdv9; cases e9; rw [← HDD.out]; exact h9
          have cv1 : ∀ m, (convert 25 9 (.slice ma (D - 2) mc)).run Try.prog (w9'.drewN m) = .ok (.string ⟨(d.drop 2).toArray⟩) (w9'.drewN m) := fun m => conv_string (w := w9'.drewN m) (hmv9.keep (drewN_below _ _ _))
          have cv2 : ∀ m, (convert 25 9 (.slice (some ⟨db, do_ + 2, none⟩) (D - 2) (dc - 2))).run Try.prog (w9'.drewN m) = .ok (.string ⟨(d.drop 2).toArray⟩) (w9'.drewN m) := fun m => conv_string (w := w9'.drewN m) (hdm.keep (drewN_below _ _ _))
          have dD : decide ((D : Int) < 2) = false := by simp; omega
          have z1 : (2 : Int) ≤ (D : Int) := by omega
          have z2 : (D : Int) ≤ (dc : Int) := by omega
          have z3 : ((D : Int) - 2).toNat = D - 2 := by omega
          have z4 : (dc = 2 ∧ D = 2) ∨ ¬ dc = 2 := by omega
          clear hb9 HP1 HSAY HALL PP HXL hd2 hnn hl20 hE1 hmv9 hdm hdv9 hcom
          subst hnX
          by_cases hdc2 : dc = 2
          · subst hdc2
            obtain rfl : D = 2 := by omega
            have cv3 : ∀ m, (convert 25 9 (.slice (some ⟨db, do_, none⟩) 0 0)).run Try.prog (w9'.drewN m) = .ok (.string ⟨([] : List UInt8).toArray⟩) (w9'.drewN m) := fun m => conv_string ⟨some ⟨db, do_, none⟩, 0, rfl, Nat.le_refl _, by decide, by simp [cellsB], fun h => absurd h (by decide)⟩
            have hd0 : d.drop 2 = [] := List.eq_nil_of_length_eq_zero hdl
            rw [hd0] at cv1
            clear cv2 hd0
            go_upto_region 39 with fail
            go_quiet (fail)
            go_wp2_with fail
            go_ret
            exact ⟨rfl, HW9.out.trans (drewN_below _ _ _)⟩
          · have x1 : (dc = 2) = False := by simp [hdc2]
            go_upto_region 39 with fail
            go_quiet (fail)
            go_wp2_with fail
            go_ret
            exact ⟨rfl, HW9.out.trans (drewN_below _ _ _)⟩
      · have u1 : t ≠ 83 ∧ t ≠ 93 ∧ t ≠ 94 ∧ t ≠ 95 ∧ t ≠ 96 ∧ t ≠ 97 := by unfold isWayT at w1; simpa [and_assoc] using w1
        have u2 : t ≠ 79 ∧ t ≠ 81 ∧ t ≠ 145 ∧ t ≠ 146 ∧ t ≠ 147 ∧ t ≠ 217 := by unfold isBadT at w2; simpa [and_assoc] using w2
        obtain ⟨he0, hcom, hl20⟩ := HSAY.out.els w1 w2 n1 n2 n3 n4
        subst he0
        obtain ⟨hnn, cv, mv, hE1, hmv⟩ := HP1.out.2.2 rfl
        have hnX : nn = (NX : Int) := by rw [hnn, ← HXX.out, hl20, List.length_append, HNX.out]; simp
        rw [hcom] at hmv
        obtain ⟨ma, mc, rfl, -⟩ := hmv
        rw [← hE1] at hb9
        have k17 : w9'.cell? ⟨wb.heap.size, 17, none⟩ = some (.slice ma 0 mc) := hb9.cell 17
        clear hnn hl20 hE1 hb9 HP1
        subst hnX
        have f83 : ((t : Int) == 83) = false := by simp; omega
        have f93 : ((t : Int) == 93) = false := by simp; omega
        have f94 : ((t : Int) == 94) = false := by simp; omega
        have f95 : ((t : Int) == 95) = false := by simp; omega
        have f96 : ((t : Int) == 96) = false := by simp; omega
        have f97 : ((t : Int) == 97) = false := by simp; omega
        have f79 : ((t : Int) == 79) = false := by simp; omega
        have f81 : ((t : Int) == 81) = false := by simp; omega
        have f145 : ((t : Int) == 145) = false := by simp; omega
        have f146 : ((t : Int) == 146) = false := by simp; omega
        have f147 : ((t : Int) == 147) = false := by simp; omega
        have f217 : ((t : Int) == 217) = false := by simp; omega
        have f82 : ((t : Int) == 82) = false := by simp; omega
        have f92 : ((t : Int) == 92) = false := by simp; omega
        have f144 : ((t : Int) == 144) = false := by simp; omega
        have f100 : ((t : Int) == 100) = false := by simp; omega
        go_wp2_with fail
        go_ret
        exact ⟨rfl, HW9.out⟩
    ·
      go_upto_region 14 with (at_builtin; go_must (refine wpList_app rfl (.tmp 56) (.tmp 57) rfl w5.heap.size _ X7 (segT t d) rfl (by rw [HX7.out.2]; exact H7.out.1) _ rfl (HVS.out.keep H7.out.2) (by have := HSL.out; have h9 := HX7.out.1; rw [← h9, List.length_append]; omega) H7.out.2.size ?_; intro v9 w9 ho9 hb9 hg9; obtain ⟨X9, hX9⟩ : ∃ X, X7 ++ segT t d = X := ⟨_, rfl⟩; rw [hX9] at ho9; obtain ⟨n9, hn9⟩ : ∃ n, X9.length = n := ⟨_, rfl⟩; rw [hn9] at ho9; have HX9 := Lib.hid (And.intro hX9 hn9); clear hX9 hn9; obtain ⟨a9, c9, rfl⟩ := owns_slice ho9; have H9 := Lib.hid (And.intro ho9 (H7.out.2.trans hb9)); clear ho9 hb9 hg9))
      have HXX : Hid (X9 ++ [255, 144] = M ++ (segsT t d true ++ [255, 144])) := Lib.hid (by rw [← HX9.out.1, ← HX7.out.1]; simp [segsT])
      have HNX := Lib.hid HX9.out.2
      have hnb : n9 ≤ 999950 := by
        have h9 := HX9.out.2
        rw [← h9, ← HX9.out.1, ← HX7.out.1]
        have := HSL.out
        simp only [List.length_append]
        omega
      go_upto_region 15 with (first | (at_builtin; go_must (refine wpList_app rfl (.tmp 60) (.tmp 61) rfl w5.heap.size _ X9 [255, 144] rfl (World.ownsRow.alloc (by rw [HX9.out.2]; exact H9.out.1) _) _ rfl (BV.two w9 255 144 _ rfl) (by rw [HX9.out.2]; simp; omega) (by have := H9.out.2.size; simp; omega) ?_; intro v8 w8 ho8 hb8 hg8; have HBV8 := Lib.hid (BV.of_owns ho8); obtain ⟨n8, hn8⟩ : ∃ n, (X9 ++ [255, 144]).length = n := ⟨_, rfl⟩; rw [hn8] at ho8; have HN8 := Lib.hid hn8; clear hn8; obtain ⟨a8, c8, rfl⟩ := owns_slice ho8; have HB8 := Lib.hid ((H9.out.2.alloc H9.out.2.size _).trans hb8); clear ho8 hb8 hg8)) | (go_at_call 16; refine (PP.out _ _ (by rw [← HXX.out]; exact HBV8.out)).mono ?_; rintro r wb ⟨A1, nn, hA1, rfl, hB10, hp1⟩; have hA1' := hA1.1; have hst1 := store_head hA1; have HP1 := Lib.hid (And.intro hA1 (And.intro hB10 hp1)); clear hA1 hB10 hp1))
      obtain ⟨w9', hw9⟩ : ∃ w9', w9' = newHead wb A1 := ⟨_, rfl⟩
      have hb9 : Blk w9' wb.heap.size 33 A1 := by rw [hw9]; exact newHead_blk wb HP1.out.1
      have hbb9 : Below wb.heap.size wb w9' := by rw [hw9]; exact newHead_below wb A1
      simp only [← hw9]
      clear hw9 hst1
      have h58 : Below w.heap.size w w8 := HW5.out.trans (HB8.out.mono HW5.out.size)
      have h5b := h58.trans (HP1.out.2.1.mono h58.size)
      have HW9 := Lib.hid (h5b.trans (hbb9.mono h5b.size))
      have HBB9 := Lib.hid hbb9
      clear hbb9 h58 h5b HB8
      obtain ⟨NX, hNX2⟩ : ∃ NX, NX = n9 := ⟨_, rfl⟩
      rw [← hNX2] at HNX
      simp only [← hNX2]
      clear hNX2 hnb
      have hcls : isWayT t = true ∨ isBadT t = true ∨ (t = 82 ∨ t = 92) ∨ t = 144 ∨ t = 100 ∨ (isWayT t = false ∧ isBadT t = false ∧ t ≠ 82 ∧ t ≠ 92 ∧ t ≠ 144 ∧ t ≠ 100) := by
        cases isWayT t <;> cases isBadT t <;> simp <;> omega
      rcases hcls with hw | hb' | h2 | h144 | h100' | ⟨w1, w2, n1, n2, n3, n4⟩
      · have he := HSAY.out.way hw
        subst he
        have ht : t = 83 ∨ t = 93 ∨ t = 94 ∨ t = 95 ∨ t = 96 ∨ t = 97 := by unfold isWayT at hw; simpa [or_assoc] using hw
        clear hb9 HP1 HSAY HALL PP HXL
        rcases ht with rfl | rfl | rfl | rfl | rfl | rfl
        all_goals
          go_wp2_with fail
          go_ret
          exact ⟨rfl, HW9.out⟩
      · have he := HSAY.out.bad hb'
        subst he
        have ht : t = 79 ∨ t = 81 ∨ t = 145 ∨ t = 146 ∨ t = 147 ∨ t = 217 := by unfold isBadT at hb'; simpa [or_assoc] using hb'
        clear hb9 HP1 HSAY HALL PP HXL
        rcases ht with rfl | rfl | rfl | rfl | rfl | rfl
        all_goals
          go_wp2_with fail
          go_ret
          exact ⟨rfl, HW9.out⟩
      · have he := HSAY.out.two h2
        subst he
        clear hb9 HP1 HSAY HALL PP HXL
        rcases h2 with rfl | rfl
        all_goals
          go_wp2_with fail
          go_ret
          exact ⟨rfl, HW9.out⟩
      · obtain ⟨he, hl⟩ := HSAY.out.sot h144
        subst he
        obtain ⟨hnn, -⟩ := HP1.out.2.2 rfl
        have hnX : nn = (N : Int) := by rw [hnn]; have := HN.out; omega
        subst hnX
        subst h144
        clear hb9 HP1 HSAY HALL PP HXL hnn hl
        go_wp2_with fail
        go_ret
        exact ⟨rfl, HW9.out⟩
      · subst h100'
        by_cases hd2 : d.length < 2
        · have he := HSAY.out.com rfl hd2
          subst he
          have dD : decide ((D : Int) < 2) = true := by have := HDD.out; simp; omega
          clear hb9 HP1 HSAY HALL PP HXL hd2
          go_wp2_with fail
          go_ret
          exact ⟨rfl, HW9.out⟩
        · obtain ⟨he, hcom, hl20⟩ := HSAY.out.rem rfl (by omega)
          subst he
          obtain ⟨hnn, cv, mv, hE1, hmv⟩ := HP1.out.2.2 rfl
          have hnX : nn = (NX : Int) := by rw [hnn, ← HXX.out, hl20, List.length_append, HNX.out]; simp
          rw [hcom] at hmv
          have hmv9 := hmv.keep HBB9.out
          have hdl : (d.drop 2).length = D - 2 := by rw [List.length_drop, HDD.out]
          have hD2 : 2 ≤ D := by have := HDD.out; omega
          obtain ⟨ma, mc, rfl, -⟩ := hmv
          rw [hdl] at hmv9 hE1
          rw [← hE1] at hb9
          have k17 : w9'.cell? ⟨wb.heap.size, 17, none⟩ = some (.slice ma (D - 2) mc) := hb9.cell 17
          have hdv9 := HDV.out.keep HW9.out
          obtain ⟨db, do_, rfl⟩ := hdv9.addr (by omega)
          have hdm := hdv9.mid 2 D hD2 (Nat.le_refl _)
          rw [List.take_of_length_le (by rw [hdl]; exact Nat.le_refl _)] at hdm
          have hdc : D ≤ dc := by obtain ⟨_, _, e9, h9, _⟩ := hdv9; cases e9; rw [← HDD.out]; exact h9
          have cv1 : ∀ m, (convert 25 9 (.slice ma (D - 2) mc)).run Try.prog (w9'.drewN m) = .ok (.string ⟨(d.drop 2).toArray⟩) (w9'.drewN m) := fun m => conv_string (w := w9'.drewN m) (hmv9.keep (drewN_below _ _ _))
          have cv2 : ∀ m, (convert 25 9 (.slice (some ⟨db, do_ + 2, none⟩) (D - 2) (dc - 2))).run Try.prog (w9'.drewN m) = .ok (.string ⟨(d.drop 2).toArray⟩) (w9'.drewN m) := fun m => conv_string (w := w9'.drewN m) (hdm.keep (drewN_below _ _ _))
          have dD : decide ((D : Int) < 2) = false := by simp; omega
          have z1 : (2 : Int) ≤ (D : Int) := by omega
          have z2 : (D : Int) ≤ (dc : Int) := by omega
          have z3 : ((D : Int) - 2).toNat = D - 2 := by omega
          have z4 : (dc = 2 ∧ D = 2) ∨ ¬ dc = 2 := by omega
          clear hb9 HP1 HSAY HALL PP HXL hd2 hnn hl20 hE1 hmv9 hdm hdv9 hcom
          subst hnX
          by_cases hdc2 : dc = 2
          · subst hdc2
            obtain rfl : D = 2 := by omega
            have cv3 : ∀ m, (convert 25 9 (.slice (some ⟨db, do_, none⟩) 0 0)).run Try.prog (w9'.drewN m) = .ok (.string ⟨([] : List UInt8).toArray⟩) (w9'.drewN m) := fun m => conv_string ⟨some ⟨db, do_, none⟩, 0, rfl, Nat.le_refl _, by decide, by simp [cellsB], fun h => absurd h (by decide)⟩
            have hd0 : d.drop 2 = [] := List.eq_nil_of_length_eq_zero hdl
            rw [hd0] at cv1
            clear cv2 hd0
            go_upto_region 39 with fail
            go_quiet (fail)
            go_wp2_with fail
            go_ret
            exact ⟨rfl, HW9.out.trans (drewN_below _ _ _)⟩
          · have x1 : (dc = 2) = False := by simp [hdc2]
            go_upto_region 39 with fail
            go_quiet (fail)
            go_wp2_with fail
            go_ret
            exact ⟨rfl, HW9.out.trans (drewN_below _ _ _)⟩
      · have u1 : t ≠ 83 ∧ t ≠ 93 ∧ t ≠ 94 ∧ t ≠ 95 ∧ t ≠ 96 ∧ t ≠ 97 := by unfold isWayT at w1; simpa [and_assoc] using w1
        have u2 : t ≠ 79 ∧ t ≠ 81 ∧ t ≠ 145 ∧ t ≠ 146 ∧ t ≠ 147 ∧ t ≠ 217 := by unfold isBadT at w2; simpa [and_assoc] using w2
        obtain ⟨he0, hcom, hl20⟩ := HSAY.out.els w1 w2 n1 n2 n3 n4
        subst he0
        obtain ⟨hnn, cv, mv, hE1, hmv⟩ := HP1.out.2.2 rfl
        have hnX : nn = (NX : Int) := by rw [hnn, ← HXX.out, hl20, List.length_append, HNX.out]; simp
        rw [hcom] at hmv
        obtain ⟨ma, mc, rfl, -⟩ := hmv
        rw [← hE1] at hb9
        have k17 : w9'.cell? ⟨wb.heap.size, 17, none⟩ = some (.slice ma 0 mc) := hb9.cell 17
        clear hnn hl20 hE1 hb9 HP1
        subst hnX
        have f83 : ((t : Int) == 83) = false := by simp; omega
        have f93 : ((t : Int) == 93) = false := by simp; omega
        have f94 : ((t : Int) == 94) = false := by simp; omega
        have f95 : ((t : Int) == 95) = false := by simp; omega
        have f96 : ((t : Int) == 96) = false := by simp; omega
        have f97 : ((t : Int) == 97) = false := by simp; omega
        have f79 : ((t : Int) == 79) = false := by simp; omega
        have f81 : ((t : Int) == 81) = false := by simp; omega
        have f145 : ((t : Int) == 145) = false := by simp; omega
        have f146 : ((t : Int) == 146) = false := by simp; omega
        have f147 : ((t : Int) == 147) = false := by simp; omega
        have f217 : ((t : Int) == 217) = false := by simp; omega
        have f82 : ((t : Int) == 82) = false := by simp; omega
        have f92 : ((t : Int) == 92) = false := by simp; omega
        have f144 : ((t : Int) == 144) = false := by simp; omega
        have f100 : ((t : Int) == 100) = false := by simp; omega
        go_wp2_with fail
        go_ret
        exact ⟨rfl, HW9.out⟩
end Go.Proofs.Ytlhlhlabnjfhcaa
