/- Bits of packets' heads: the plain law: the program's way of packing them and the document's. Bits of packets' heads: the program's writer, over heaplets. Bits of packets' heads: the program's writer by what was written; slices.Clone of bytes. Bits of packets' heads: the writer's bytes; the program's reader. waveletref4: the arithmetic coder, over heaplets: new, a byte goes out. waveletref4: a byte goes out, with a carry. -/
import Derived.Test.YtnpoakabheeoeaaTw01
import Derived.Laws.Bits128
import Derived.Laws.BitsAllLaws
import Derived.Deep.RegionHeld
import Derived.WalkLawsBesides
import Derived.Deep.QuietTactic
import Derived.BigQuiet
import Derived.Test.YtnpoakabheeoeaaTw02
import Derived.Deep.RegionLaw
set_option maxRecDepth 100000
namespace Go.Proofs.Ytnpoakabheeoeaa
section
def wbit (s : List UInt8 × Nat) (b : Bool) : List UInt8 × Nat :=
 let t : List UInt8 × Nat := if s.2 = 0 then (s.1 ++ [0],if s.1.getLast? = some 255 then 7 else 8) else s
 (t.1.dropLast ++ [t.1.getLastD 0 ||| (if b then (1 : UInt8) <<< UInt8.ofNat (t.2 - 1) else 0)],t.2 - 1)
def wbits (bs : List Bool) : List UInt8 × Nat := bs.foldl wbit ([],0)
def wout (s : List UInt8 × Nat) : List UInt8 := if s.1.getLast? = some 255 then s.1 ++ [0] else s.1
def rbit (s : List UInt8 × UInt8 × Nat) (b : Bool) : List UInt8 × UInt8 × Nat :=
 let c := s.2.1 ||| (if b then (1 : UInt8) <<< UInt8.ofNat (s.2.2 - 1) else 0)
 if s.2.2 = 1 then (s.1 ++ [c],0,if c = 255 then 7 else 8) else (s.1,c,s.2.2 - 1)
def rbits (bs : List Bool) : List UInt8 × UInt8 × Nat := bs.foldl rbit ([],0,8)
theorem wbits_snoc (bs : List Bool) (b : Bool) : wbits (bs ++ [b]) = wbit (wbits bs) b := by simp [wbits]
def WR (s : List UInt8 × Nat) (r : List UInt8 × UInt8 × Nat) : Prop :=
 (s.2 = 0 ∧ s.1 = r.1 ∧ r.2.1 = 0 ∧ r.2.2 = (if r.1.getLast? = some 255 then 7 else 8)) ∨
 (1 ≤ s.2 ∧ s.2 < (if r.1.getLast? = some 255 then 7 else 8) ∧ s.1 = r.1 ++ [r.2.1] ∧ r.2.2 = s.2)
theorem WR.step {s : List UInt8 × Nat} {r : List UInt8 × UInt8 × Nat} (h : WR s r) (b : Bool) : WR (wbit s b) (rbit r b) := by
 obtain ⟨l,k⟩ := s
 obtain ⟨B,c,f⟩ := r
 rcases h with ⟨h1,h2,h3,h4⟩ | ⟨h1,h2,h3,h4⟩
 ·simp only at h1 h2 h3 h4
  subst h1 h2 h3
  have hf : f = 7 ∨ f = 8 := by rw [h4]; split <;> simp
  right
  have hf1 : ¬ f = 1 := by omega
  simp only [wbit,rbit,if_true,hf1,if_false]
  rw [← h4]
  exact ⟨by omega,by omega,by simp,by first | rfl | trivial⟩
 ·simp only at h1 h2 h3 h4
  subst h3 h4
  have hk : ¬ f = 0 := by omega
  by_cases hf1 : f = 1
  ·subst hf1
   left
   simp [wbit,rbit]
  ·right
   simp only [wbit,rbit,hk,hf1,if_false]
   exact ⟨by omega,by omega,by simp,by first | rfl | trivial⟩
theorem wr_bits (bs : List Bool) : WR (wbits bs) (rbits bs) := by
 have h : ∀ (l : List Bool) (s : List UInt8 × Nat) (r : List UInt8 × UInt8 × Nat),WR s r → WR (l.foldl wbit s) (l.foldl rbit r) := by
  intro l
  induction l with
  | nil => intro s r h; exact h
  | cons b l ih => intro s r h; exact ih _ _ (h.step b)
 exact h bs _ _ (.inl ⟨rfl,rfl,rfl,rfl⟩)
end
section
open Go.RowKit
theorem i64_and1 (n : Int) : bits .and .i64 n 1 = n % 2 := by
 have h1 : (BitVec.ofInt 64 1).toNat = 2 ^ 1 - 1 := by decide
 have key : (BitVec.ofInt 64 n &&& BitVec.ofInt 64 1).toNat = (n % ((2 ^ 64 : Nat) : Int)).toNat % 2 ^ 1 := by
  rw [BitVec.toNat_and,BitVec.toNat_ofInt,h1,Nat.and_two_pow_sub_one_eq_mod]
 show IntKind.i64.wrap ((BitVec.ofInt 64 n &&& BitVec.ofInt 64 1).toNat : Nat) = n % 2
 rw [key,IntKind.wrap_i64]
 omega
theorem shl_u8 : ∀ k,k < 8 → ((1 : UInt8) <<< UInt8.ofNat k).toNat = 2 ^ k := by decide
theorem byte_bit (x : UInt8) (b : Int) (k : Nat) (hk : k < 8) : bits .or .u8 (x.toNat : Int) (bits .and .i64 b 1 % 256 * 2 ^ k % 256) = ((x ||| (if decide (b % 2 = 1) = true then (1 : UInt8) <<< UInt8.ofNat k else 0)).toNat : Int) := by
 rw [i64_and1]
 have hx := x.toNat_lt
 rcases (show b % 2 = 0 ∨ b % 2 = 1 by omega) with h | h
 ·rw [h]
  have := u8_or_nat x.toNat 0 (by omega) (by omega)
  simpa using this
 ·rw [h]
  have h2 : (2 : Nat) ^ k < 256 := Nat.pow_lt_pow_right (by decide) hk
  have e : (1 : Int) % 256 * 2 ^ k % 256 = ((2 ^ k : Nat) : Int) := by
   have e0 : (2 : Int) ^ k = ((2 ^ k : Nat) : Int) := by simp
   rw [show (1 : Int) % 256 = 1 from rfl,Int.one_mul,e0]
   exact Int.emod_eq_of_lt (Int.natCast_nonneg _) (by omega)
  rw [e,u8_or_nat x.toNat (2 ^ k) (by omega) h2,if_pos (by simp),UInt8.toNat_or,shl_u8 k hk]
theorem getLast_255 {l : List UInt8} (h : l.getLastD 0 = 255) : (l.getLast? = some 255) = True := by
 rw [List.getLastD_eq_getLast?] at h
 cases hl : l.getLast? with
 | none => rw [hl] at h; simp at h
 | some x => rw [hl] at h; simpa using h
theorem getLast_no255 {l : List UInt8} (h : ¬ l.getLastD 0 = 255) : (l.getLast? = some 255) = False := by
 rw [List.getLastD_eq_getLast?] at h
 simp only [eq_iff_iff,iff_false]
 intro e
 rw [e] at h
 exact h rfl
theorem last_any (g : Nat) (v : Value) (l : List UInt8) (Hr : List HB) (w : World) (c0 : w.cell? ⟨g,0,none⟩ = some v) (hr : RowB v l Hr) (hs : Sat w Hr) (hl : l.length ≤ 100000000) :
  Calls Try.prog 59 #[.pointer (some ⟨g,0,none⟩)] w fun e w' => e = .returned (.int .u8 ((l.getLastD 0).toNat : Int)) ∧ ∃ n,w' = w.drewN n := by
 by_cases h0 : l.length = 0
 ·have hl0 : l = [] := List.eq_nil_of_length_eq_zero h0
  subst hl0
  obtain ⟨a,c,rfl⟩ := hr.slice
  have HO := Lib.hid (And.intro hr hs)
  clear hr hs
  go_enter Try.func59,Try.ntmps59
  go_wp2_with fail
  go_ret
  exact ⟨rfl,0,rfl⟩
 ·obtain ⟨g2,c,rfl,hc,-⟩ := hr.last hs (by omega)
  have HO := Lib.hid (And.intro hr hs)
  clear hr hs
  obtain ⟨n,hn⟩ : ∃ n,l.length = n := ⟨_,rfl⟩
  rw [hn] at c0 hc h0 hl
  simp only [hn] at HO
  have d1 : ((n : Int) == 0) = false := by simpa using h0
  have d2 : (n : Int) - 1 = ((n - 1 : Nat) : Int) := by omega
  have d3 : (((n - 1 : Nat) : Int)) < (n : Int) := by omega
  generalize (l.getLastD 0) = lst at *
  go_enter Try.func59,Try.ntmps59
  go_upto_region 4 with fail
  go_region
  all_goals
   go_wp2_with fail
   go_ret
   exact ⟨rfl,1,rfl⟩
def WrH (wb : Nat) (l : List UInt8) (r : Nat) (H : List HB) : Prop := ∃ v Hr,H = ⟨wb,130,#[v,.int .i64 (r : Int)]⟩ :: Hr ∧ RowB v l Hr
theorem put_any (wb : Nat) (l : List UInt8) (r : Nat) (c : UInt8) (w : World) (H : List HB) (h : WrH wb l r H) (hs : Sat w H) (hl : l.length ≤ 90000000) :
  Calls Try.prog 82 #[.pointer (some ⟨wb,0,none⟩),.int .u8 (c.toNat : Int)] w fun e w' => e = .returned (.tuple #[]) ∧ ∃ H',WrH wb (l ++ [c]) r H' ∧ Mv w H w' H' := by
 obtain ⟨v,Hr,rfl,hr⟩ := h
 obtain ⟨va,vc,rfl⟩ := hr.slice
 have c0 : w.cell? ⟨wb,0,none⟩ = some (.slice va l.length vc) := (hs.at_ 0 rfl).cell 0
 have M0 := (Mv.refl hs).alloc 5 #[.int .u8 (c.toNat : Int)]
 have H0 := Lib.hid (And.intro hr M0)
 clear hr hs M0
 go_enter Try.func82,Try.ntmps82
 go_wp2_with (at_builtin; refine wpList_appB rfl (.tmp 8) (.tmp 10) rfl _ _ l [c] Hr rfl rfl H0.out.1 ((H0.out.2.sat.right (A := [_,_]))) (bv_one w c _ rfl) (by simp; omega) ?_; intro v8 w8 H8 hr8 m8; obtain ⟨a8,c8,rfl⟩ := hr8.slice; have M8 := Mv.call (Mv.mv1 (A := [_,_]) (B := Hr) (R := []) (by simpa using H0.out.2)) m8; have y0 := (M8.mv1 (A := H8) (B := [_,_]) (R := [])).cell 1 rfl 0; have yf := (M8.mv1 (A := H8) (B := [_,_]) (R := [])).frozen 1 rfl 0; have K8 := Lib.hid (And.intro hr8 M8); clear hr8 M8 m8; rw [List.length_append,List.length_cons,List.length_nil,Nat.zero_add] at *)
 go_end0
 obtain ⟨hr8,M8⟩ := K8.out
 have M9 := ((M8.mv1 (A := H8) (B := [_,_]) (R := [])).drop1.set 0 (.slice a8 (l.length + 1) c8))
 refine ⟨rfl,_,⟨_,H8,rfl,?_⟩,by simpa using M9⟩
 simpa using hr8
set_option maxHeartbeats 2000000 in
theorem bit_wr (wb : Nat) (l : List UInt8) (r : Nat) (b : Int) (w : World) (H : List HB) (h : WrH wb l r H) (hs : Sat w H) (hl : l.length ≤ 80000000) (hr8 : r ≤ 8) (h1 : r ≠ 0 → l ≠ []) :
    Calls Try.prog 58 #[.pointer (some ⟨wb,0,none⟩),.int .i64 b] w fun e w' => e = .returned (.tuple #[]) ∧ ∃ H',WrH wb (wbit (l,r) (decide (b % 2 = 1))).1 (wbit (l,r) (decide (b % 2 = 1))).2 H' ∧ Mv w H w' H' := by
  by_cases h0 : r = 0
  case neg =>
    obtain ⟨v,Hr,rfl,hr⟩ := h
    have hl0 : 0 < l.length := List.length_pos_iff.2 (h1 h0)
    have hr1 : 1 ≤ r := by omega
    obtain ⟨g,c,rfl,-,-⟩ := hr.last (hs.right (A := [_])) hl0
    have M0 := Mv.refl hs
    obtain ⟨n,hn⟩ : ∃ n,l.length = n := ⟨_,rfl⟩
    have hn0 : 0 < n := by omega
    have hnl : n ≤ 80000000 := by omega
    rw [hn] at hr M0 ⊢
    clear hs hl hl0 h1
    have c0 : w.cell? ⟨wb,0,none⟩ = some (.slice (some ⟨g,0,none⟩) n c) := M0.cell 0 rfl 0
    have c1 : w.cell? ⟨wb,1,none⟩ = some (.int .i64 (r : Int)) := M0.cell 0 rfl 1
    have f1 : w.frozen? ⟨wb,1,none⟩ = false := M0.frozen 0 rfl 1
    have d1 : IntKind.i64.wrap ((r : Int) - 1) = ((r - 1 : Nat) : Int) := by rw [IntWalk.i64_in _ (by omega)]; omega
    have d2 : (n : Int) - 1 = ((n - 1 : Nat) : Int) := by omega
    have d3 : (((n - 1 : Nat) : Int)) < (n : Int) := by omega
    obtain ⟨lst,hlst⟩ : ∃ x,(l).getLastD 0 = x := ⟨_,rfl⟩
    have M2 := M0.set 1 (.int .i64 ((r - 1 : Nat) : Int))
    obtain ⟨k1,k2⟩ := hr.at_last (M2.sat.right (A := [_])) hn hn0
    rw [hlst] at k1
    have K := Lib.hid (And.intro hr (And.intro M2 (And.intro hn hlst)))
    clear hn hlst hr M2 M0
    have d0 : ((r : Int) == 0) = false := by simpa using h0
    go_enter Try.func58,Try.ntmps58
    go_upto_region 6 with fail
    obtain ⟨w2,hw2⟩ : ∃ w2,w2 = w.setCell ⟨wb,1,none⟩ (.int .i64 ((r - 1 : Nat) : Int)) := ⟨_,rfl⟩
    obtain ⟨hr,M2,hn,hlst⟩ := K.out
    rw [← hw2] at M2 k1 k2
    have e0 : w2.cell? ⟨wb,0,none⟩ = some (.slice (some ⟨g,0,none⟩) n c) := M2.cell 0 rfl 0
    have e1 : w2.cell? ⟨wb,1,none⟩ = some (.int .i64 ((r - 1 : Nat) : Int)) := M2.cell 0 rfl 1
    simp only [← hw2]
    have K2 := Lib.hid (And.intro hr (And.intro M2 (And.intro hn hlst)))
    clear K c0 c1 f1 hw2 d1 hr M2 hn hlst
    go_region
    all_goals
      go_wp2_with fail
      go_end0
      obtain ⟨hr,M2,hn,hlst⟩ := K2.out
      rw [byte_bit lst b (r - 1) (by omega)]
      obtain ⟨H',j1,j2⟩ := RowB.set_last (by rw [hn]; exact hr) (M2.sat.right (A := [_])) (by omega) (lst ||| (if decide (b % 2 = 1) = true then (1 : UInt8) <<< UInt8.ofNat (r - 1) else 0))
      rw [hn] at j1 j2
      have M3 := Mv.call (Mv.mv1 (A := [_]) (B := Hr) (R := []) (by simpa using M2)) j2
      have M4 := (Mv.mv1 (A := H') (B := [_]) (R := []) M3).drew
      have e : wbit (l,r) (decide (b % 2 = 1)) = ((l).dropLast ++ [lst ||| (if decide (b % 2 = 1) = true then (1 : UInt8) <<< UInt8.ofNat (r - 1) else 0)],r - 1) := by
        simp only [wbit,h0,if_false,hlst]
      rw [e]
      refine ⟨rfl,_,⟨_,H',rfl,j1⟩,?_⟩
      simpa using M4
  case pos =>
    subst h0
    have HH := Lib.hid (And.intro h hs)
    obtain ⟨v,Hr,rfl,hr⟩ := h
    obtain ⟨va,vc,rfl⟩ := hr.slice
    have M1 := (Mv.refl hs).set 1 (.int .i64 8)
    have c1 : w.cell? ⟨wb,1,none⟩ = some (.int .i64 0) := (hs.at_ 0 rfl).cell 1
    have f1 : w.frozen? ⟨wb,1,none⟩ = false := (hs.at_ 0 rfl).frozen 1
    obtain ⟨w1,hw1⟩ : ∃ w1,w1 = w.setCell ⟨wb,1,none⟩ (.int .i64 8) := ⟨_,rfl⟩
    rw [← hw1] at M1
    have LA := Lib.hid (last_any wb _ l Hr w1 (M1.cell 0 rfl 0) hr (M1.sat.right (A := [_])) (by omega))
    have K1 := Lib.hid (And.intro hr M1)
    clear hr hs M1
    go_enter Try.func58,Try.ntmps58
    go_upto_region 2 with fail
    simp only [← hw1]
    clear hw1 HH c1 f1
    have PU : Hid (∀ (r : Nat) (w : World) (H : List HB),WrH wb l r H → Sat w H → Calls Try.prog 82 #[.pointer (some ⟨wb,0,none⟩),.int .u8 0] w fun e w' => e = .returned (.tuple #[]) ∧ ∃ H',WrH wb (l ++ [0]) r H' ∧ Mv w H w' H') := Lib.hid (fun r w H h hs => put_any wb l r 0 w H h hs (by omega))
    obtain ⟨q,hq⟩ : ∃ q,l.getLastD 0 = q := ⟨_,rfl⟩
    rw [hq] at LA
    have HQ := Lib.hid hq
    clear hq
    by_cases h255 : q = 255
    case' pos => have d0 : ((q.toNat : Int) == 255) = true := by rw [h255]; rfl
    case' neg => have d0 : ((q.toNat : Int) == 255) = false := by
                  have : q.toNat ≠ 255 := fun e => h255 (UInt8.toNat_inj.1 (by rw [e]; rfl))
                  exact beq_eq_false_iff_ne.2 (by omega)
    case pos =>
      go_upto_region 4 with (go_at_call 59; refine LA.out.mono ?_; rintro e w' ⟨rfl,k,rfl⟩; have f1 : (w1.drewN k).frozen? ⟨wb,1,none⟩ = false := (K1.out.2.drewN k).frozen 0 rfl 1; have c1 : (w1.drewN k).cell? ⟨wb,1,none⟩ = some (.int .i64 8) := (K1.out.2.drewN k).cell 0 rfl 1)
      obtain ⟨w2,hw2⟩ : ∃ w2,w2 = (w1.drewN k).setCell ⟨wb,1,none⟩ (.int .i64 7) := ⟨_,rfl⟩
      simp only [← hw2]
      have M2 := (K1.out.2.drewN k).set 1 (.int .i64 7)
      rw [← hw2] at M2
      have K2 : Hid (RowB (.slice va l.length vc) l Hr ∧ Mv w _ w2 (⟨wb,130,#[.slice va l.length vc,.int .i64 ((7 : Nat) : Int)]⟩ :: Hr)) := Lib.hid (And.intro K1.out.1 M2)
      clear hw2 c1 f1 M2 LA
      go_upto_region 5 with (go_at_call 82; refine (PU.out 7 w2 _ ⟨_,_,rfl,K2.out.1⟩ K2.out.2.sat).mono ?_; rintro e w3 ⟨rfl,H3,h3,m3⟩; have K3 := Lib.hid (And.intro h3 (K2.out.2.trans m3)); clear h3 m3 K2 K1)
      obtain ⟨h3,M3⟩ := K3.out
      clear K3
      obtain ⟨v3,Hr,rfl,hr⟩ := h3
      have hl0 : 0 < (l ++ [0]).length := by simp
      obtain ⟨g,c,rfl,-,-⟩ := hr.last (M3.sat.right (A := [_])) hl0
      obtain ⟨n,hn⟩ : ∃ n,(l ++ [0]).length = n := ⟨_,rfl⟩
      have hn0 : 0 < n := by omega
      have hnl : n ≤ 80000001 := by have : (l ++ [0]).length = l.length + 1 := by simp
                                    omega
      rw [hn] at hr M3
      have hr1 : 1 ≤ 7 := by omega
      have c0 : w3.cell? ⟨wb,0,none⟩ = some (.slice (some ⟨g,0,none⟩) n c) := M3.cell 0 rfl 0
      have c1 : w3.cell? ⟨wb,1,none⟩ = some (.int .i64 (7 : Int)) := M3.cell 0 rfl 1
      have f1 : w3.frozen? ⟨wb,1,none⟩ = false := M3.frozen 0 rfl 1
      have d1 : IntKind.i64.wrap ((7 : Int) - 1) = 6 := by rw [IntWalk.i64_in _ (by omega)]; omega
      have d2 : (n : Int) - 1 = ((n - 1 : Nat) : Int) := by omega
      have d3 : (((n - 1 : Nat) : Int)) < (n : Int) := by omega
      obtain ⟨lst,hlst⟩ : ∃ x,((l ++ [0])).getLastD 0 = x := ⟨_,rfl⟩
      have M2 := M3.set 1 (.int .i64 6)
      obtain ⟨k1,k2⟩ := hr.at_last (M2.sat.right (A := [_])) hn hn0
      rw [hlst] at k1
      have K := Lib.hid (And.intro hr (And.intro M2 (And.intro hn hlst)))
      clear hn hlst hr M2 M3
      go_upto_region 6 with fail
      obtain ⟨w2,hw2⟩ : ∃ w2,w2 = w3.setCell ⟨wb,1,none⟩ (.int .i64 6) := ⟨_,rfl⟩
      obtain ⟨hr,M2,hn,hlst⟩ := K.out
      rw [← hw2] at M2 k1 k2
      have e0 : w2.cell? ⟨wb,0,none⟩ = some (.slice (some ⟨g,0,none⟩) n c) := M2.cell 0 rfl 0
      have e1 : w2.cell? ⟨wb,1,none⟩ = some (.int .i64 6) := M2.cell 0 rfl 1
      simp only [← hw2]
      have K2 := Lib.hid (And.intro hr (And.intro M2 (And.intro hn hlst)))
      clear K c0 c1 f1 hw2 d1 hr M2 hn hlst
      go_region
      all_goals
        go_wp2_with fail
        go_end0
        obtain ⟨hr,M2,hn,hlst⟩ := K2.out
        have bb := byte_bit lst b 6 (by decide)
        rw [show (2 : Int) ^ 6 = 64 from by decide] at bb
        rw [bb]
        obtain ⟨H',j1,j2⟩ := RowB.set_last (by rw [hn]; exact hr) (M2.sat.right (A := [_])) (by omega) (lst ||| (if decide (b % 2 = 1) = true then (1 : UInt8) <<< UInt8.ofNat 6 else 0))
        rw [hn] at j1 j2
        have M3 := Mv.call (Mv.mv1 (A := [_]) (B := Hr) (R := []) (by simpa using M2)) j2
        have M4 := (Mv.mv1 (A := H') (B := [_]) (R := []) M3).drew
        have e : wbit (l,0) (decide (b % 2 = 1)) = (((l ++ [0])).dropLast ++ [lst ||| (if decide (b % 2 = 1) = true then (1 : UInt8) <<< UInt8.ofNat 6 else 0)],6) := by
          simp only [wbit,if_true,getLast_255 (HQ.out.trans h255),hlst]
        rw [e]
        refine ⟨rfl,_,⟨_,H',rfl,j1⟩,?_⟩
        simpa using M4
    case neg =>
      go_upto_region 4 with (go_at_call 59; refine LA.out.mono ?_; rintro e w' ⟨rfl,k,rfl⟩)
      have M2 := (K1.out.2.drewN k)
      have K2 : Hid (RowB (.slice va l.length vc) l Hr ∧ Mv w _ (w1.drewN k) (⟨wb,130,#[.slice va l.length vc,.int .i64 ((8 : Nat) : Int)]⟩ :: Hr)) := Lib.hid (And.intro K1.out.1 M2)
      clear M2 LA
      go_upto_region 5 with (go_at_call 82; refine (PU.out 8 (w1.drewN k) _ ⟨_,_,rfl,K2.out.1⟩ K2.out.2.sat).mono ?_; rintro e w3 ⟨rfl,H3,h3,m3⟩; have K3 := Lib.hid (And.intro h3 (K2.out.2.trans m3)); clear h3 m3 K2 K1)
      obtain ⟨h3,M3⟩ := K3.out
      clear K3
      obtain ⟨v3,Hr,rfl,hr⟩ := h3
      have hl0 : 0 < (l ++ [0]).length := by simp
      obtain ⟨g,c,rfl,-,-⟩ := hr.last (M3.sat.right (A := [_])) hl0
      obtain ⟨n,hn⟩ : ∃ n,(l ++ [0]).length = n := ⟨_,rfl⟩
      have hn0 : 0 < n := by omega
      have hnl : n ≤ 80000001 := by have : (l ++ [0]).length = l.length + 1 := by simp
                                    omega
      rw [hn] at hr M3
      have hr1 : 1 ≤ 8 := by omega
      have c0 : w3.cell? ⟨wb,0,none⟩ = some (.slice (some ⟨g,0,none⟩) n c) := M3.cell 0 rfl 0
      have c1 : w3.cell? ⟨wb,1,none⟩ = some (.int .i64 (8 : Int)) := M3.cell 0 rfl 1
      have f1 : w3.frozen? ⟨wb,1,none⟩ = false := M3.frozen 0 rfl 1
      have d1 : IntKind.i64.wrap ((8 : Int) - 1) = 7 := by rw [IntWalk.i64_in _ (by omega)]; omega
      have d2 : (n : Int) - 1 = ((n - 1 : Nat) : Int) := by omega
      have d3 : (((n - 1 : Nat) : Int)) < (n : Int) := by omega
      obtain ⟨lst,hlst⟩ : ∃ x,((l ++ [0])).getLastD 0 = x := ⟨_,rfl⟩
      have M2 := M3.set 1 (.int .i64 7)
      obtain ⟨k1,k2⟩ := hr.at_last (M2.sat.right (A := [_])) hn hn0
      rw [hlst] at k1
      have K := Lib.hid (And.intro hr (And.intro M2 (And.intro hn hlst)))
      clear hn hlst hr M2 M3
      go_upto_region 6 with fail
      obtain ⟨w2,hw2⟩ : ∃ w2,w2 = w3.setCell ⟨wb,1,none⟩ (.int .i64 7) := ⟨_,rfl⟩
      obtain ⟨hr,M2,hn,hlst⟩ := K.out
      rw [← hw2] at M2 k1 k2
      have e0 : w2.cell? ⟨wb,0,none⟩ = some (.slice (some ⟨g,0,none⟩) n c) := M2.cell 0 rfl 0
      have e1 : w2.cell? ⟨wb,1,none⟩ = some (.int .i64 7) := M2.cell 0 rfl 1
      simp only [← hw2]
      have K2 := Lib.hid (And.intro hr (And.intro M2 (And.intro hn hlst)))
      clear K c0 c1 f1 hw2 d1 hr M2 hn hlst
      go_region
      all_goals
        go_wp2_with fail
        go_end0
        obtain ⟨hr,M2,hn,hlst⟩ := K2.out
        have bb := byte_bit lst b 7 (by decide)
        rw [show (2 : Int) ^ 7 = 128 from by decide] at bb
        rw [bb]
        obtain ⟨H',j1,j2⟩ := RowB.set_last (by rw [hn]; exact hr) (M2.sat.right (A := [_])) (by omega) (lst ||| (if decide (b % 2 = 1) = true then (1 : UInt8) <<< UInt8.ofNat 7 else 0))
        rw [hn] at j1 j2
        have M3 := Mv.call (Mv.mv1 (A := [_]) (B := Hr) (R := []) (by simpa using M2)) j2
        have M4 := (Mv.mv1 (A := H') (B := [_]) (R := []) M3).drew
        have e : wbit (l,0) (decide (b % 2 = 1)) = (((l ++ [0])).dropLast ++ [lst ||| (if decide (b % 2 = 1) = true then (1 : UInt8) <<< UInt8.ofNat 7 else 0)],7) := by
          simp only [wbit,if_true,getLast_no255 (fun e => h255 (HQ.out.symm.trans e)),if_false,hlst]
        rw [e]
        refine ⟨rfl,_,⟨_,H',rfl,j1⟩,?_⟩
        simpa using M4
end
section
open Go.RowKit
theorem clone_any (v : Value) (l : List UInt8) (w : World) (hv : BV w v l) (hn : l.length ≤ 100000000) :
  Calls Try.prog 31 #[v] w fun e w' => ∃ v' H',e = .returned v' ∧ RowB v' l H' ∧ Mv w [] w' H' := by
 obtain ⟨A,c,rfl,h1,h2,hr⟩ := hv
 have HV := Lib.hid hr
 have hq : ∀ W,(binOp .eql 30 (.slice A l.length c) (.slice none 0 0)).run Try.prog W = .ok (.bool A.isNone) W := fun W => Lib.run_eql_slice_nil W 30 5 A l.length c 0 0 Try.underlying30
 rcases A with _ | ad
 ·have h0 : l.length = 0 := by
   rcases Nat.eq_zero_or_pos l.length with h | h
   ·exact h
   ·obtain ⟨_,h,_⟩ := hr.2 h; cases h
  have hl : l = [] := List.eq_nil_of_length_eq_zero h0
  subst hl
  clear hr HV hn h1 h0
  simp only [List.length_nil] at hq ⊢
  go_enter Try.func31,Try.ntmps31
  go_wp2
  go_ret
  exact ⟨_,[],rfl,RowH.nil _ _,Mv.refl (Sat.nil w)⟩
 ·have M0 := mv_alloc w 5 #[]
  have B0 : BV (w.alloc (.cells #[] 5)) (.slice (some ad) l.length c) l := ⟨some ad,c,rfl,h1,h2,(hr.alloc (Nat.le_refl _) _).more (by simp)⟩
  have R0 : RowB (.slice (some ⟨w.heap.size,0,none⟩) 0 0) [] [⟨w.heap.size,5,#[]⟩] := RowB.lit w.heap.size [] 0 rfl (by decide)
  have K := Lib.hid (And.intro M0 (And.intro B0 R0))
  obtain ⟨n,hnn⟩ : ∃ n,l.length = n := ⟨_,rfl⟩
  have HN := Lib.hid hnn
  rw [hnn] at hq hn h1 K
  rw [hnn]
  clear hr HV M0 B0 R0 hnn
  go_enter Try.func31,Try.ntmps31
  go_wp2_with (at_builtin; go_must (refine wpList_appB rfl (.tmp 5) (.tmp 6) rfl _ _ [] l _ rfl rfl K.out.2.2 K.out.1.sat K.out.2.1 (by rw [HN.out]; simp; omega) ?_; intro v' w1 H1 hr1 m1; obtain ⟨a1,c1,rfl⟩ := hr1.slice; have K1 := Lib.hid (And.intro hr1 m1); clear hr1 m1))
  go_ret
  exact ⟨_,H1,rfl,by simpa using K1.out.1,K.out.1.trans K1.out.2⟩
theorem wbits_inv (bs : List Bool) : (wbits bs).2 ≤ 8 ∧ ((wbits bs).2 ≠ 0 → (wbits bs).1 ≠ []) ∧ (wbits bs).1.length ≤ bs.length := by
 have h := wr_bits bs
 refine ⟨?_,?_,?_⟩
 ·rcases h with ⟨h1,-⟩ | ⟨-,h2,-⟩
  ·omega
  ·split at h2 <;> omega
 ·rcases h with ⟨h1,-⟩ | ⟨-,-,h3,-⟩
  ·intro e; exact absurd h1 e
  ·intro _; rw [h3]; simp
 ·clear h
  have key : ∀ (l : List Bool) (s : List UInt8 × Nat),(l.foldl wbit s).1.length ≤ s.1.length + l.length := by
   intro l
   induction l with
   | nil => intro s; simp
   | cons b l ih =>
    intro s
    have h1 := ih (wbit s b)
    have h2 : (wbit s b).1.length ≤ s.1.length + 1 := by
     simp only [wbit]
     split <;> simp <;> omega
    simp only [List.foldl_cons,List.length_cons]
    omega
  simpa [wbits] using key bs ([],0)
def WrB (wb : Nat) (bs : List Bool) (H : List HB) : Prop := WrH wb (wbits bs).1 (wbits bs).2 H
def bitI (n : Int) (k : Nat) : Bool := decide (n / 2 ^ k % 2 = 1)
def bitsN (n : Int) (size : Nat) : List Bool := (List.range size).map fun i => bitI n (size - 1 - i)
def bitsG (n size : Int) : List Bool := if 1 ≤ size ∧ size ≤ 32 then bitsN n size.toNat else []
theorem bitsN_length (n : Int) (size : Nat) : (bitsN n size).length = size := by simp [bitsN]
theorem bitsG_length (n size : Int) : (bitsG n size).length ≤ 32 := by
 unfold bitsG
 split
 ·rw [bitsN_length]; omega
 ·simp
theorem bit_any (wb : Nat) (bs : List Bool) (b : Int) (w : World) (H : List HB) (h : WrB wb bs H) (hs : Sat w H) (hl : bs.length ≤ 80000000) :
  Calls Try.prog 58 #[.pointer (some ⟨wb,0,none⟩),.int .i64 b] w fun e w' => e = .returned (.tuple #[]) ∧ ∃ H',WrB wb (bs ++ [decide (b % 2 = 1)]) H' ∧ Mv w H w' H' := by
 obtain ⟨i1,i2,i3⟩ := wbits_inv bs
 have := bit_wr wb (wbits bs).1 (wbits bs).2 b w H h hs (by omega) i1 i2
 unfold WrB
 rw [wbits_snoc]
 exact this
theorem new_writer (w : World) : Calls Try.prog 25 #[] w fun e w' => ∃ wb H',e = .returned (.pointer (some ⟨wb,0,none⟩)) ∧ WrB wb [] H' ∧ Mv w [] w' H' := by
 go_enter Try.func25,Try.ntmps25
 go_wp2_with fail
 go_ret
 exact ⟨_,_,rfl,⟨_,[],rfl,RowH.nil _ _⟩,mv_alloc w _ _⟩
set_option maxHeartbeats 1000000 in
theorem bits_any (wb : Nat) (bs : List Bool) (n size : Int) (w : World) (H : List HB) (h : WrB wb bs H) (hs : Sat w H) (hl : bs.length ≤ 70000000) :
  Calls Try.prog 26 #[.pointer (some ⟨wb,0,none⟩),.int .i64 n,.int .i64 size] w fun e w' => e = .returned (.tuple #[]) ∧ ∃ H',WrB wb (bs ++ bitsG n size) H' ∧ Mv w H w' H' := by
 by_cases hz : 1 ≤ size ∧ size ≤ 32
 ·obtain ⟨z,rfl⟩ := Int.eq_ofNat_of_zero_le (a := size) (by omega)
  have d1 : decide ((z : Int) < 1) = false := by simp; omega
  have d2 : decide ((32 : Int) < (z : Int)) = false := by simp; omega
  have K := Lib.hid (And.intro h (And.intro hs hz))
  have hz2 : 1 ≤ z ∧ z ≤ 32 := by omega
  have HG : Hid (bs ++ bitsG n (z : Int) = bs ++ bitsN n z) := Lib.hid (by unfold bitsG; rw [if_pos hz]; simp)
  rw [HG.out]
  clear h hs hz HG
  go_enter Try.func26,Try.ntmps26
  go_wp2_with fail
  go_loopg [6] z (fun g s6 wx => ∃ i : Nat,i ≤ z ∧ g = z - i ∧ s6 = .int .i64 ((z : Int) - 1 - i) ∧ ∃ H',WrB wb (bs ++ (List.range i).map fun j => bitI n (z - 1 - j)) H' ∧ Mv w H wx H')
  case atStart => exact ⟨0,Nat.zero_le _,rfl,by go_num,H,by simpa using K.out.1,Mv.refl K.out.2.1⟩
  case round =>
   obtain ⟨wa,rfl⟩ : ∃ wa : World,wa = wr := ⟨_,rfl⟩
   obtain ⟨i,hik,rfl,rfl,H1,h1,m1⟩ := hrel
   by_cases hlt : i < z
   ·have d3 : decide ((0 : Int) ≤ (z : Int) - 1 - i) = true := by simp; omega
    obtain ⟨q,hq⟩ : ∃ q,z - 1 - i = q := ⟨_,rfl⟩
    have hq2 : (z : Int) - 1 - i = (q : Int) := by omega
    rw [hq2] at d3
    simp only [hq2]
    have hq3 : q ≤ 31 := by omega
    have HQ := Lib.hid (And.intro hq hq2)
    have B1 := Lib.hid (bit_any wb _ (n / 2 ^ q) wa H1 h1 m1.sat (by simp; omega))
    have M1 := Lib.hid m1
    clear hq hq2 h1 m1
    go_wp2_with (go_at_call 58; refine B1.out.mono ?_; rintro e w2 ⟨rfl,H2,h2,m2⟩; have K2 := Lib.hid (And.intro h2 (M1.out.trans m2)); clear h2 m2)
    go_roundg (z - (i + 1))
    case measure => omega
    case rel =>
     refine ⟨i + 1,hlt,rfl,?_,_,?_,K2.out.2⟩
     ·have := HQ.out.2
      have h9 : (q : Int) - 1 = (z : Int) - 1 - ((i + 1 : Nat) : Int) := by omega
      first | rw [h9] | go_num
     ·have := K2.out.1
      rw [List.range_succ,List.map_append,← List.append_assoc]
      simpa [bitI,HQ.out.1] using this
   ·obtain rfl : i = z := by omega
    have d3 : decide ((0 : Int) ≤ (i : Int) - 1 - i) = false := by simp; omega
    go_wp2_with fail
    go_end0
    exact ⟨rfl,H1,h1,m1⟩
 ·have hG : bs ++ bitsG n size = bs := by unfold bitsG; rw [if_neg hz]; simp
  rw [hG]
  by_cases h1 : size < 1
  ·have d1 : decide (size < 1) = true := by simpa using h1
   have K := Lib.hid (And.intro h hs)
   clear h hs hz h1
   go_enter Try.func26,Try.ntmps26
   go_wp2_with fail
   exact bodyPost_ret (results_none rfl _ _ _) rfl ⟨rfl,H,K.out.1,Mv.refl K.out.2⟩
  ·have d1 : decide (size < 1) = false := by simpa using h1
   have d2 : decide (32 < size) = true := by simp; omega
   have K := Lib.hid (And.intro h hs)
   clear h hs hz h1
   go_enter Try.func26,Try.ntmps26
   go_wp2_with fail
   exact bodyPost_ret (results_none rfl _ _ _) rfl ⟨rfl,H,K.out.1,Mv.refl K.out.2⟩
end
section
open Go.RowKit
set_option maxHeartbeats 1000000 in
theorem bytes_any (wb : Nat) (bs : List Bool) (w : World) (H : List HB) (h : WrB wb bs H) (hs : Sat w H) (hl : bs.length ≤ 70000000) :
  Calls Try.prog 28 #[.pointer (some ⟨wb,0,none⟩)] w fun e w' => ∃ v' Hn,e = .returned v' ∧ RowB v' (wout (wbits bs)) Hn ∧ Mv w H w' (Hn ++ H) := by
 obtain ⟨v,Hr,rfl,hr⟩ := h
 have i3 := (wbits_inv bs).2.2
 unfold wout
 generalize (wbits bs).1 = l at *
 generalize (wbits bs).2 = r at *
 have hll : l.length ≤ 70000000 := by omega
 clear i3 hl
 have c0 : w.cell? ⟨wb,0,none⟩ = some v := (hs.at_ 0 rfl).cell 0
 have C1 := Lib.hid (clone_any v l w (hr.bv (hs.right (A := [_]))) (by omega))
 have K0 := Lib.hid (And.intro hr hs)
 obtain ⟨va,vc,rfl⟩ := hr.slice
 clear hr hs
 obtain ⟨out,hout⟩ : ∃ o,(if l.getLast? = some 255 then l ++ [0] else l) = o := ⟨_,rfl⟩
 rw [hout]
 have HO := Lib.hid hout
 obtain ⟨q,hq⟩ : ∃ q,l.getLastD 0 = q := ⟨_,rfl⟩
 have HQ := Lib.hid hq
 have LA := Lib.hid fun w3 c0 hs => last_any wb (.slice va l.length vc) l Hr w3 c0 K0.out.1 hs (by omega)
 rw [hq] at LA
 clear hq hout
 go_enter Try.func28,Try.ntmps28
 go_upto_region 2 with (go_at_call 31; refine C1.out.mono ?_; rintro e w3 ⟨v3,H3,rfl,h3,m3⟩; have K3 := Lib.hid (And.intro h3 (Mv.call (H := []) (Mv.refl K0.out.2) m3)); clear h3 m3)
 have c3 : w3.cell? ⟨wb,0,none⟩ = some (.slice va l.length vc) := (Mv.mv1 (A := H3) (B := _ :: Hr) (R := []) (by simpa using K3.out.2)).cell 0 rfl 0
 have L3 := Lib.hid (LA.out w3 c3 ((Mv.sub K3.out.2 (fun g => by simp only [cnt_append,cnt_cons]; omega) (fun b hb => by simp [hb])).sat))
 clear LA C1 c0
 by_cases h255 : q = 255
 ·have d0 : ((q.toNat : Int) == 255) = true := by rw [h255]; rfl
  have e1 : Hid (out = l ++ [0]) := Lib.hid (by rw [← HO.out,if_pos (of_eq_true (getLast_255 (HQ.out.trans h255)))])
  go_upto_region 3 with (go_at_call 59; refine L3.out.mono ?_; rintro e w4 ⟨rfl,k,rfl⟩)
  obtain ⟨a3,n3,rfl⟩ := K3.out.1.slice
  have M4 := (K3.out.2.drewN k).alloc 5 #[.int .u8 ((0 : UInt8).toNat : Int)]
  have A4 := Lib.hid (bv_one (w3.drewN k) 0 w3.heap.size rfl)
  have S4 : Hid (Sat ((w3.drewN k).alloc (.cells #[.int .u8 ((0 : UInt8).toNat : Int)] 5)) H3) := Lib.hid (Mv.sub M4 (fun g => by simp only [cnt_append,cnt_cons]; omega) (fun b hb => by simp [hb])).sat
  have M4' := Lib.hid M4
  clear M4 L3
  go_upto_region 4 with (at_builtin; go_must (refine wpList_appB rfl (.tmp 15) (.tmp 16) rfl _ _ l [0] H3 rfl rfl K3.out.1 S4.out A4.out (by simp; omega) ?_; intro v5 w5 H5 hr5 m5; obtain ⟨a5,c5,rfl⟩ := hr5.slice; have K5 := Lib.hid (And.intro hr5 (Mv.call (Mv.mv1 (A := [_]) (B := H3) (R := _) M4'.out) m5)); clear hr5 m5))
  have C5 := Lib.hid (clone_any _ (l ++ [0]) w5 (K5.out.1.bv K5.out.2.sat.left) (by simp; omega))
  simp only [List.length_append,List.length_cons,List.length_nil,Nat.zero_add] at C5
  go_wp2_with (go_at_call 31; refine C5.out.mono ?_; rintro e w6 ⟨v6,H6,rfl,h6,m6⟩; have K6 := Lib.hid (And.intro h6 (Mv.call (H := []) (K5.out.2) m6)); clear h6 m6)
  go_ret
  exact ⟨_,H6,rfl,by rw [e1.out]; exact K6.out.1,Mv.drop2 (B := [_]) (Mv.drop2 (B := H5) K6.out.2)⟩
 ·have d0 : ((q.toNat : Int) == 255) = false := by
   have : q.toNat ≠ 255 := fun e => h255 (UInt8.toNat_inj.1 (by rw [e]; rfl))
   exact beq_eq_false_iff_ne.2 (by omega)
  have e1 : Hid (out = l) := Lib.hid (by rw [← HO.out,if_neg (of_eq_false (getLast_no255 (fun e => h255 (HQ.out.symm.trans e))))])
  go_upto_region 4 with (go_at_call 59; refine L3.out.mono ?_; rintro e w4 ⟨rfl,k,rfl⟩)
  obtain ⟨a3,n3,rfl⟩ := K3.out.1.slice
  have C5 := Lib.hid (clone_any _ l (w3.drewN k) (K3.out.1.bv (K3.out.2.drewN k).sat.left) (by omega))
  go_wp2_with (go_at_call 31; refine C5.out.mono ?_; rintro e w6 ⟨v6,H6,rfl,h6,m6⟩; have K6 := Lib.hid (And.intro h6 (Mv.call (H := []) (K3.out.2.drewN k) m6)); clear h6 m6)
  go_ret
  exact ⟨_,H6,rfl,by rw [e1.out]; exact K6.out.1,Mv.drop2 (B := H3) K6.out.2⟩
structure RdM where
 begun : Nat
 left : Nat
 bad : Bool
end
section
open Go.RowKit
theorem wpList_build_to {P : Program} {ops : Array Oper} {rest : List Oper} {o : Oper} {a : Act} {w : World} {Q : Exit → Act → World → Prop} (hg : o.guard = none) (t : TypeId) (parts : Array (Nat × Operand)) (ho : o.op = .build t parts) (cells : Array Value)
  (hf : P.built t (parts.map fun (i,x) => (i,a.eval x)).toList = some cells) (h : wpList P ops Q rest (a.put o.dst (.agg cells)) w) : wpList P ops Q (o :: rest) a w :=
 wpList_build hg t parts ho (by rw [hf]; rfl) (by rw [hf]; exact h)
theorem Mv.behind {w0 w : World} {H0 B : List HB} {x y : HB} (h : Mv w0 H0 w (x :: y :: B)) : Mv w0 H0 w (B ++ [x,y]) :=
 h.sub (fun g => by simp only [cnt_append,cnt_cons,cnt_nil]; omega) (fun c hc => by simp only [List.mem_append,List.mem_cons] at hc ⊢; grind)
theorem Mv.second {w0 w : World} {H0 A : List HB} {x y : HB} (h : Mv w0 H0 w (A ++ [x,y])) : Mv w0 H0 w (y :: A) :=
 h.sub (fun g => by simp only [cnt_append,cnt_cons,cnt_nil]; omega) (fun c hc => by simp only [List.mem_append,List.mem_cons] at hc ⊢; grind)
def encB (eg a c ct : Nat) (v : Value) : HB := ⟨eg,148,#[.int .i64 (a : Int),.int .i64 (c : Int),.int .i64 (ct : Int),v]⟩
def MqR (eg : Nat) (e : EncM) (H : List HB) : Prop := ∃ vb Hb,H = encB eg e.a e.c e.ct vb :: Hb ∧ RowB vb e.b Hb
theorem new_enc (w : World) : Calls Try.prog 38 #[] w fun e w' => ∃ eg H,e = .returned (.pointer (some ⟨eg,0,none⟩)) ∧ MqR eg encNew H ∧ Mv w [] w' H := by
 have M := (mv_alloc w 5 #[.int .u8 0]).alloc 148 #[.int .i64 32768,.int .i64 0,.int .i64 12,.slice (some ⟨w.heap.size,0,none⟩) 1 1]
 rw [World.size_alloc] at M
 have K := Lib.hid M
 clear M
 go_enter Try.func38,Try.ntmps38
 go_wp2_with fail
 go_ret
 exact ⟨_,_,rfl,⟨_,_,rfl,RowB.lit w.heap.size [0] 1 rfl (by decide)⟩,K.out⟩
theorem u8_of_nat (n : Nat) : (n : Int) % 256 = ((UInt8.ofNat n).toNat : Int) := by
 rw [UInt8.toNat_ofNat']
 omega
theorem byte_shr (c d : Nat) : IntKind.u8.wrap ((c : Int) / (d : Int)) = ((UInt8.ofNat (c / d)).toNat : Int) := by
 rw [IntKind.wrap_u8,← u8_of_nat,Int.natCast_ediv]
theorem mask_nat (i c : Nat) (hi : i ≤ 63) (hc : c < 9223372036854775808) : bits .and .i64 (c : Int) ((2 : Int) ^ i - 1) = ((c % 2 ^ i : Nat) : Int) := by
 rw [and_mask i hi c (by omega) (by omega)]
 push_cast
 rfl
theorem mask20 (c : Nat) (hc : c < 9223372036854775808) : bits .and .i64 (c : Int) 1048575 = ((c % 2 ^ 20 : Nat) : Int) := mask_nat 20 c (by decide) hc
theorem mask19 (c : Nat) (hc : c < 9223372036854775808) : bits .and .i64 (c : Int) 524287 = ((c % 2 ^ 19 : Nat) : Int) := mask_nat 19 c (by decide) hc
theorem shr20 (c : Nat) : IntKind.u8.wrap ((c : Int) / 1048576) = ((UInt8.ofNat (c / 2 ^ 20)).toNat : Int) := byte_shr c (2 ^ 20)
theorem shr19 (c : Nat) : IntKind.u8.wrap ((c : Int) / 524288) = ((UInt8.ofNat (c / 2 ^ 19)).toNat : Int) := byte_shr c (2 ^ 19)
theorem u8_ne255 {q : UInt8} (h : q ≠ 255) : ¬ ((q.toNat : Int) = 255) := fun e => h (UInt8.toNat_inj.1 (show q.toNat = 255 by omega))
theorem u8_ne255b {q : UInt8} (h : q ≠ 255) : ((q.toNat : Int) == 255) = false := beq_eq_false_iff_ne.2 (u8_ne255 h)
theorem u8_inc (q : UInt8) (h : q ≠ 255) : ((q + 1).toNat : Int) = (q.toNat : Int) + 1 := by
 have h1 : q.toNat ≠ 255 := fun e => h (UInt8.toNat_inj.1 (by rw [e]; rfl))
 have h2 := q.toNat_lt
 rw [UInt8.toNat_add]
 have : (1 : UInt8).toNat = 1 := rfl
 rw [this]
 omega
set_option maxHeartbeats 2000000 in
theorem out_f (eg : Nat) (e : EncM) (w : World) (H : List HB) (h : MqR eg e H) (hs : Sat w H) (hb : e.b ≠ []) (hl : e.b.length ≤ 90000000) (hc : e.c ≤ 1000000000000) (hq : e.b.getLastD 0 = 255) :
  Calls Try.prog 71 #[.pointer (some ⟨eg,0,none⟩)] w fun e0 w' => e0 = .returned (.tuple #[]) ∧ ∃ H',MqR eg (outE e) H' ∧ Mv w H w' H' := by
 obtain ⟨a,cc,ct,b⟩ := e
 simp only at hb hl hc hq
 have EO : outE ⟨a,cc,ct,b⟩ = ⟨a,cc % 2 ^ 20,7,b ++ [UInt8.ofNat (cc / 2 ^ 20)]⟩ := by
  unfold outE carryE putE
  simp only [hq,ne_eq,not_true_eq_false,false_and,if_false,if_true]
 rw [EO]
 obtain ⟨vb,Hb,rfl,hr⟩ := h
 simp only at hr
 have hb0 : 0 < b.length := List.length_pos_iff.2 hb
 obtain ⟨g,cp,rfl,-,-⟩ := hr.last (hs.right (A := [_])) hb0
 have M0 := Mv.refl hs
 obtain ⟨n,hn⟩ : ∃ n,b.length = n := ⟨_,rfl⟩
 have hn0 : 0 < n := by omega
 have hnl : n ≤ 90000000 := by omega
 rw [hn] at hr M0 ⊢
 simp only at M0
 have c0 : w.cell? ⟨eg,3,none⟩ = some (.slice (some ⟨g,0,none⟩) n cp) := M0.cell 0 rfl 3
 have c1 : w.cell? ⟨eg,1,none⟩ = some (.int .i64 (cc : Int)) := M0.cell 0 rfl 1
 obtain ⟨k1,k2⟩ := hr.at_last (hs.right (A := [_])) hn hn0
 have f1 : w.frozen? ⟨eg,1,none⟩ = false := M0.frozen 0 rfl 1
 have d2 : (n : Int) - 1 = ((n - 1 : Nat) : Int) := by omega
 have d3 : (((n - 1 : Nat) : Int)) < (n : Int) := by omega
 rw [hq] at k1
 obtain ⟨x,hx⟩ : ∃ x,UInt8.ofNat (cc / 2 ^ 20) = x := ⟨_,rfl⟩
 have hx8 := shr20 cc
 have hm := mask20 cc (by omega)
 rw [hx] at hx8 ⊢
 have K := Lib.hid (And.intro hr (And.intro M0 hn))
 clear hn hr M0 hs hb hl hb0 hq EO hx
 go_enter Try.func71,Try.ntmps71
 go_upto_region 5 with fail
 have M1' := K.out.2.1.alloc 5 #[.int .u8 (x.toNat : Int)]
 have y7 := M1'.cell 1 rfl 3
 have A1 : Hid (BV (w.alloc (.cells #[.int .u8 (x.toNat : Int)] 5)).drew (.slice (some ⟨w.heap.size,0,none⟩) 1 1) [x]) := Lib.hid (bv_one w x _ rfl)
 have K1 := Lib.hid (Mv.behind M1'.drew)
 clear M1'
 go_region_law (first
  | ((with_reducible refine step_appB (o := ⟨some 61,_,_,_,_,_⟩) (v := .slice (some ⟨g,0,none⟩) n cp) (u := .slice (some ⟨w.heap.size,0,none⟩) 1 1) (l := b) (r := [x]) (H := Hb) rfl (.tmp 53) (.tmp 60) rfl ?_ ?_ K.out.1 K1.out.sat.left A1.out ?_ ?_); simp [Act.eval]; simp [Act.eval]; (rw [K.out.2.2]; simp; omega); intro v6 w6 H6 hr6 m6; obtain ⟨a6,c6,rfl⟩ := hr6.slice; have M6 := Mv.second (Mv.call K1.out m6); have y3 := M6.cell 0 rfl 3; have y1 := M6.cell 0 rfl 1; have z3 := M6.frozen 0 rfl 3; have K6 := Lib.hid (And.intro hr6 M6); clear hr6 m6 M6))
 all_goals
  have M7 := K6.out.2.set 3 (.slice a6 (b.length + 1) c6)
  obtain ⟨w7,hw7⟩ : ∃ w7,w7 = w6.setCell ⟨eg,3,none⟩ (.slice a6 (b.length + 1) c6) := ⟨_,rfl⟩
  rw [← hw7] at M7 ⊢
  have e1 := M7.cell 0 rfl 1
  have f1 := M7.frozen 0 rfl 1
  have e2 := M7.cell 0 rfl 2
  have f2 := M7.frozen 0 rfl 2
  have K7 := Lib.hid M7
  clear hw7 M7 y1 y3 z3
  go_wp2_with fail
  have M9 := (K7.out.set 1 (.int .i64 ((cc % 2 ^ 20 : Nat) : Int))).set 2 (.int .i64 7)
  have h6 := K6.out.1
  simp only [List.length_append,List.length_cons,List.length_nil,Nat.zero_add] at h6
  exact bodyPost_ret (results_none rfl _ _ _) rfl ⟨rfl,_,⟨_,H6,rfl,h6⟩,M9⟩
set_option maxHeartbeats 2000000 in
theorem out_n (eg : Nat) (e : EncM) (w : World) (H : List HB) (h : MqR eg e H) (hs : Sat w H) (hb : e.b ≠ []) (hl : e.b.length ≤ 90000000) (hc : e.c ≤ 1000000000000) (hq : e.b.getLastD 0 ≠ 255) (hcc : e.c < 134217728) :
  Calls Try.prog 71 #[.pointer (some ⟨eg,0,none⟩)] w fun e0 w' => e0 = .returned (.tuple #[]) ∧ ∃ H',MqR eg (outE e) H' ∧ Mv w H w' H' := by
 obtain ⟨a,cc,ct,b⟩ := e
 simp only at hb hl hc hq hcc
 have EO : outE ⟨a,cc,ct,b⟩ = ⟨a,cc % 2 ^ 19,8,b ++ [UInt8.ofNat (cc / 2 ^ 19)]⟩ := by
  have h1 : ¬ (b.getLastD 0 ≠ 255 ∧ 134217728 ≤ cc) := fun k => by omega
  unfold outE carryE putE
  rw [if_neg h1,if_neg hq]
 rw [EO]
 obtain ⟨vb,Hb,rfl,hr⟩ := h
 simp only at hr
 have hb0 : 0 < b.length := List.length_pos_iff.2 hb
 obtain ⟨g,cp,rfl,-,-⟩ := hr.last (hs.right (A := [_])) hb0
 have M0 := Mv.refl hs
 obtain ⟨n,hn⟩ : ∃ n,b.length = n := ⟨_,rfl⟩
 have hn0 : 0 < n := by omega
 have hnl : n ≤ 90000000 := by omega
 rw [hn] at hr M0 ⊢
 simp only at M0
 have c0 : w.cell? ⟨eg,3,none⟩ = some (.slice (some ⟨g,0,none⟩) n cp) := M0.cell 0 rfl 3
 have c1 : w.cell? ⟨eg,1,none⟩ = some (.int .i64 (cc : Int)) := M0.cell 0 rfl 1
 obtain ⟨k1,k2⟩ := hr.at_last (hs.right (A := [_])) hn hn0
 have f1 : w.frozen? ⟨eg,1,none⟩ = false := M0.frozen 0 rfl 1
 have d2 : (n : Int) - 1 = ((n - 1 : Nat) : Int) := by omega
 have d3 : (((n - 1 : Nat) : Int)) < (n : Int) := by omega
 obtain ⟨q,hqq⟩ : ∃ q,b.getLastD 0 = q := ⟨_,rfl⟩
 rw [hqq] at k1 hq
 have h255 : q ≠ 255 := hq
 have q0 := u8_ne255b h255
 have q9 := u8_ne255 h255
 have d5 : decide ((134217728 : Int) ≤ (cc : Int)) = false := by simp; omega
 obtain ⟨x,hx⟩ : ∃ x,UInt8.ofNat (cc / 2 ^ 19) = x := ⟨_,rfl⟩
 have hx8 := shr19 cc
 have hm := mask19 cc (by omega)
 rw [hx] at hx8 ⊢
 have K := Lib.hid (And.intro hr (And.intro M0 hn))
 clear hn hr M0 hs hb hl hb0 hq EO hx hqq hcc h255
 go_enter Try.func71,Try.ntmps71
 go_upto_region 8 with fail
 have M1' := K.out.2.1.alloc 5 #[.int .u8 (x.toNat : Int)]
 have y7 := M1'.cell 1 rfl 3
 have A1 : Hid (BV (w.alloc (.cells #[.int .u8 (x.toNat : Int)] 5)).drew (.slice (some ⟨w.heap.size,0,none⟩) 1 1) [x]) := Lib.hid (bv_one w x _ rfl)
 have K1 := Lib.hid (Mv.behind M1'.drew)
 clear M1'
 go_region_law (first
  | ((with_reducible refine step_appB (o := ⟨some 87,_,_,_,_,_⟩) (v := .slice (some ⟨g,0,none⟩) n cp) (u := .slice (some ⟨w.heap.size,0,none⟩) 1 1) (l := b) (r := [x]) (H := Hb) rfl (.tmp 79) (.tmp 86) rfl ?_ ?_ K.out.1 K1.out.sat.left A1.out ?_ ?_); simp [Act.eval]; simp [Act.eval]; (rw [K.out.2.2]; simp; omega); intro v6 w6 H6 hr6 m6; obtain ⟨a6,c6,rfl⟩ := hr6.slice; have M6 := Mv.second (Mv.call K1.out m6); have y3 := M6.cell 0 rfl 3; have y1 := M6.cell 0 rfl 1; have z3 := M6.frozen 0 rfl 3; have K6 := Lib.hid (And.intro hr6 M6); clear hr6 m6 M6))
 all_goals
  have M7 := K6.out.2.set 3 (.slice a6 (b.length + 1) c6)
  obtain ⟨w7,hw7⟩ : ∃ w7,w7 = w6.setCell ⟨eg,3,none⟩ (.slice a6 (b.length + 1) c6) := ⟨_,rfl⟩
  rw [← hw7] at M7 ⊢
  have e1 := M7.cell 0 rfl 1
  have f1 := M7.frozen 0 rfl 1
  have e2 := M7.cell 0 rfl 2
  have f2 := M7.frozen 0 rfl 2
  have K7 := Lib.hid M7
  clear hw7 M7 y1 y3 z3
  go_wp2_with fail
  have M9 := (K7.out.set 1 (.int .i64 ((cc % 2 ^ 19 : Nat) : Int))).set 2 (.int .i64 8)
  have h6 := K6.out.1
  simp only [List.length_append,List.length_cons,List.length_nil,Nat.zero_add] at h6
  exact bodyPost_end (results_none rfl _ _ _) rfl ⟨rfl,_,⟨_,H6,rfl,h6⟩,M9⟩
end
section
open Go.RowKit
set_option maxHeartbeats 2000000 in
theorem out_cf (eg : Nat) (e : EncM) (w : World) (H : List HB) (h : MqR eg e H) (hs : Sat w H) (hb : e.b ≠ []) (hl : e.b.length ≤ 90000000) (hc : e.c ≤ 1000000000000) (hq : e.b.getLastD 0 = 254) (hcc : 134217728 ≤ e.c) :
  Calls Try.prog 71 #[.pointer (some ⟨eg,0,none⟩)] w fun e0 w' => e0 = .returned (.tuple #[]) ∧ ∃ H',MqR eg (outE e) H' ∧ Mv w H w' H' := by
 obtain ⟨a,cc,ct,b⟩ := e
 simp only at hb hl hc hq hcc
 have EO : outE ⟨a,cc,ct,b⟩ = ⟨a,(cc - 134217728) % 2 ^ 20,7,b.dropLast ++ [b.getLastD 0 + 1] ++ [UInt8.ofNat ((cc - 134217728) / 2 ^ 20)]⟩ := by
  have h1 : b.getLastD 0 ≠ 255 ∧ 134217728 ≤ cc := ⟨by rw [hq]; decide,hcc⟩
  have h2 : (b.dropLast ++ [b.getLastD 0 + 1]).getLastD 0 = b.getLastD 0 + 1 := by simp
  unfold outE carryE putE
  rw [if_pos h1]
  simp only [h2]
  rw [if_pos (by rw [hq]; rfl)]
 rw [EO]
 obtain ⟨vb,Hb,rfl,hr⟩ := h
 simp only at hr
 have hb0 : 0 < b.length := List.length_pos_iff.2 hb
 obtain ⟨g,cp,rfl,-,-⟩ := hr.last (hs.right (A := [_])) hb0
 have M0 := Mv.refl hs
 obtain ⟨n,hn⟩ : ∃ n,b.length = n := ⟨_,rfl⟩
 have hn0 : 0 < n := by omega
 have hnl : n ≤ 90000000 := by omega
 rw [hn] at hr M0 ⊢
 simp only at M0
 have c0 : w.cell? ⟨eg,3,none⟩ = some (.slice (some ⟨g,0,none⟩) n cp) := M0.cell 0 rfl 3
 have c1 : w.cell? ⟨eg,1,none⟩ = some (.int .i64 (cc : Int)) := M0.cell 0 rfl 1
 obtain ⟨k1,k2⟩ := hr.at_last (hs.right (A := [_])) hn hn0
 have f1 : w.frozen? ⟨eg,1,none⟩ = false := M0.frozen 0 rfl 1
 have d2 : (n : Int) - 1 = ((n - 1 : Nat) : Int) := by omega
 have d3 : (((n - 1 : Nat) : Int)) < (n : Int) := by omega
 obtain ⟨q,hqq⟩ : ∃ q,b.getLastD 0 = q := ⟨_,rfl⟩
 rw [hqq] at k1 hq
 have h255 : q ≠ 255 := by rw [hq]; decide
 have hq254 : q = 254 := hq
 have q0 := u8_ne255b h255
 have q9 := u8_ne255 h255
 have q1 := (u8_inc q h255).symm
 have ql : (q.toNat : Int) < 255 := by have := (q + 1).toNat_lt; omega
 have d5 : decide ((134217728 : Int) ≤ (cc : Int)) = true := by simp; omega
 have cw : (cc : Int) - 134217728 = ((cc - 134217728 : Nat) : Int) := by omega
 have cl : cc - 134217728 ≤ 1000000000000 := by omega
 obtain ⟨c1',hc1'⟩ : ∃ c1',cc - 134217728 = c1' := ⟨_,rfl⟩
 rw [hc1'] at cw cl ⊢
 rw [hqq]
 obtain ⟨H1,j1,j2⟩ := RowB.set_last (by rw [hn]; exact hr) (hs.right (A := [_])) (by omega) (q + 1)
 rw [hn] at j1 j2
 have M1 := Mv.call (R := [encB eg a cc ct (.slice (some ⟨g,0,none⟩) n cp)]) (M0.sub (H1 := Hb ++ [encB eg a cc ct (.slice (some ⟨g,0,none⟩) n cp)]) (fun g => by simp only [cnt_append,cnt_cons,cnt_nil]; omega) (fun c hc => by simp only [List.mem_append,List.mem_cons] at hc ⊢; grind)) j2
 have M2 : Mv w _ _ (encB eg a cc ct (.slice (some ⟨g,0,none⟩) n cp) :: H1) := M1.sub (fun g => by simp only [cnt_append,cnt_cons,cnt_nil]; omega) (fun c hc => by simp only [List.mem_append,List.mem_cons] at hc ⊢; grind)
 have g1 := M2.cell 0 rfl 1
 have g2 := M2.frozen 0 rfl 1
 have M3 := M2.set 1 (.int .i64 (c1' : Int))
 obtain ⟨q',hq'⟩ : ∃ q',q + 1 = q' := ⟨_,rfl⟩
 rw [hq'] at M1 M2 M3 g1 g2 q1 j1 ⊢
 obtain ⟨b1,hb1⟩ : ∃ b1,b.dropLast ++ [q'] = b1 := ⟨_,rfl⟩
 rw [hb1] at j1 ⊢
 have hn1 : b1.length = n := by rw [← hb1,List.length_append,List.length_dropLast,List.length_singleton]; omega
 have hl1 : b1.getLastD 0 = q' := by rw [← hb1]; simp
 obtain ⟨x,hx⟩ : ∃ x,UInt8.ofNat (c1' / 2 ^ 20) = x := ⟨_,rfl⟩
 have hx8 := shr20 c1'
 have hm := mask20 c1' (by omega)
 rw [hx] at hx8 ⊢
 obtain ⟨kk1,kk2⟩ := j1.at_last (M3.sat.right (A := [_])) hn1 hn0
 rw [hl1] at kk1
 have y0 := M3.cell 0 rfl 3
 have y1 := M3.cell 0 rfl 1
 have K := Lib.hid (And.intro j1 (And.intro M3 hn1))
 obtain ⟨w1,hw1⟩ : ∃ w1,w1 = (w.setCell ⟨g,n - 1,none⟩ (.int .u8 (q'.toNat : Int))).setCell ⟨eg,1,none⟩ (.int .i64 (c1' : Int)) := ⟨_,rfl⟩
 rw [← hw1] at kk1 kk2 y0 y1 K
 have HW := Lib.hid hw1
 clear hn hr M0 hs hb hl hb0 hq EO j1 j2 M1 M2 M3 hb1 hn1 hl1 hx hqq hc1' hcc h255 hw1
 have q2 : ((q'.toNat : Int) == 255) = true := by rw [← q1,hq254]; rfl
 clear hq254 hq'
 go_enter Try.func71,Try.ntmps71
 have Q1 := Lib.hid q1
 have CW := Lib.hid cw
 clear q1 cw
 go_upto_region 2 with fail
 have q1 := Q1.out
 go_upto_region 3 with fail
 clear q1
 have cw := CW.out
 go_upto_region 4 with fail
 clear cw
 rw [← HW.out]
 clear HW c0 c1 k1 k2 f1 g1 g2
 go_upto_region 5 with fail
 have M1' := K.out.2.1.alloc 5 #[.int .u8 (x.toNat : Int)]
 have y7 := M1'.cell 1 rfl 3
 have A1 : Hid (BV (w1.alloc (.cells #[.int .u8 (x.toNat : Int)] 5)).drew (.slice (some ⟨w1.heap.size,0,none⟩) 1 1) [x]) := Lib.hid (bv_one w1 x _ rfl)
 have K1 := Lib.hid (Mv.behind M1'.drew)
 clear M1'
 go_region_law (first
  | ((with_reducible refine step_appB (o := ⟨some 61,_,_,_,_,_⟩) (v := .slice (some ⟨g,0,none⟩) n cp) (u := .slice (some ⟨w1.heap.size,0,none⟩) 1 1) (l := b1) (r := [x]) (H := H1) rfl (.tmp 53) (.tmp 60) rfl ?_ ?_ K.out.1 K1.out.sat.left A1.out ?_ ?_); simp [Act.eval]; simp [Act.eval]; (rw [K.out.2.2]; simp; omega); intro v6 w6 H6 hr6 m6; obtain ⟨a6,c6,rfl⟩ := hr6.slice; have M6 := Mv.second (Mv.call K1.out m6); have y3 := M6.cell 0 rfl 3; have y1 := M6.cell 0 rfl 1; have z3 := M6.frozen 0 rfl 3; have K6 := Lib.hid (And.intro hr6 M6); clear hr6 m6 M6))
 all_goals
  have M7 := K6.out.2.set 3 (.slice a6 (b1.length + 1) c6)
  obtain ⟨w7,hw7⟩ : ∃ w7,w7 = w6.setCell ⟨eg,3,none⟩ (.slice a6 (b1.length + 1) c6) := ⟨_,rfl⟩
  rw [← hw7] at M7 ⊢
  have e1 := M7.cell 0 rfl 1
  have f1 := M7.frozen 0 rfl 1
  have e2 := M7.cell 0 rfl 2
  have f2 := M7.frozen 0 rfl 2
  have K7 := Lib.hid M7
  clear hw7 M7 y1 y3 z3
  go_wp2_with fail
  have M9 := (K7.out.set 1 (.int .i64 ((c1' % 2 ^ 20 : Nat) : Int))).set 2 (.int .i64 7)
  have h6 := K6.out.1
  simp only [List.length_append,List.length_cons,List.length_nil,Nat.zero_add] at h6
  exact bodyPost_ret (results_none rfl _ _ _) rfl ⟨rfl,_,⟨_,H6,rfl,h6⟩,M9⟩
set_option maxHeartbeats 2000000 in
theorem out_cn (eg : Nat) (e : EncM) (w : World) (H : List HB) (h : MqR eg e H) (hs : Sat w H) (hb : e.b ≠ []) (hl : e.b.length ≤ 90000000) (hc : e.c ≤ 1000000000000) (hq : e.b.getLastD 0 ≠ 255) (hq2 : e.b.getLastD 0 ≠ 254) (hcc : 134217728 ≤ e.c) :
  Calls Try.prog 71 #[.pointer (some ⟨eg,0,none⟩)] w fun e0 w' => e0 = .returned (.tuple #[]) ∧ ∃ H',MqR eg (outE e) H' ∧ Mv w H w' H' := by
 obtain ⟨a,cc,ct,b⟩ := e
 simp only at hb hl hc hq hcc hq2
 have EO : outE ⟨a,cc,ct,b⟩ = ⟨a,(cc - 134217728) % 2 ^ 19,8,b.dropLast ++ [b.getLastD 0 + 1] ++ [UInt8.ofNat ((cc - 134217728) / 2 ^ 19)]⟩ := by
  have h1 : b.getLastD 0 ≠ 255 ∧ 134217728 ≤ cc := ⟨hq,hcc⟩
  have h2 : (b.dropLast ++ [b.getLastD 0 + 1]).getLastD 0 = b.getLastD 0 + 1 := by simp
  unfold outE carryE putE
  rw [if_pos h1]
  simp only [h2]
  rw [if_neg (fun k => hq2 (by have := congrArg (fun x => x - 1) k; simpa using this))]
 rw [EO]
 obtain ⟨vb,Hb,rfl,hr⟩ := h
 simp only at hr
 have hb0 : 0 < b.length := List.length_pos_iff.2 hb
 obtain ⟨g,cp,rfl,-,-⟩ := hr.last (hs.right (A := [_])) hb0
 have M0 := Mv.refl hs
 obtain ⟨n,hn⟩ : ∃ n,b.length = n := ⟨_,rfl⟩
 have hn0 : 0 < n := by omega
 have hnl : n ≤ 90000000 := by omega
 rw [hn] at hr M0 ⊢
 simp only at M0
 have c0 : w.cell? ⟨eg,3,none⟩ = some (.slice (some ⟨g,0,none⟩) n cp) := M0.cell 0 rfl 3
 have c1 : w.cell? ⟨eg,1,none⟩ = some (.int .i64 (cc : Int)) := M0.cell 0 rfl 1
 obtain ⟨k1,k2⟩ := hr.at_last (hs.right (A := [_])) hn hn0
 have f1 : w.frozen? ⟨eg,1,none⟩ = false := M0.frozen 0 rfl 1
 have d2 : (n : Int) - 1 = ((n - 1 : Nat) : Int) := by omega
 have d3 : (((n - 1 : Nat) : Int)) < (n : Int) := by omega
 obtain ⟨q,hqq⟩ : ∃ q,b.getLastD 0 = q := ⟨_,rfl⟩
 rw [hqq] at k1 hq hq2
 have h255 : q ≠ 255 := hq
 have hq3 : q ≠ 254 := hq2
 have q0 := u8_ne255b h255
 have q9 := u8_ne255 h255
 have q1 := (u8_inc q h255).symm
 have ql : (q.toNat : Int) < 255 := by have := (q + 1).toNat_lt; omega
 have d5 : decide ((134217728 : Int) ≤ (cc : Int)) = true := by simp; omega
 have cw : (cc : Int) - 134217728 = ((cc - 134217728 : Nat) : Int) := by omega
 have cl : cc - 134217728 ≤ 1000000000000 := by omega
 obtain ⟨c1',hc1'⟩ : ∃ c1',cc - 134217728 = c1' := ⟨_,rfl⟩
 rw [hc1'] at cw cl ⊢
 rw [hqq]
 obtain ⟨H1,j1,j2⟩ := RowB.set_last (by rw [hn]; exact hr) (hs.right (A := [_])) (by omega) (q + 1)
 rw [hn] at j1 j2
 have M1 := Mv.call (R := [encB eg a cc ct (.slice (some ⟨g,0,none⟩) n cp)]) (M0.sub (H1 := Hb ++ [encB eg a cc ct (.slice (some ⟨g,0,none⟩) n cp)]) (fun g => by simp only [cnt_append,cnt_cons,cnt_nil]; omega) (fun c hc => by simp only [List.mem_append,List.mem_cons] at hc ⊢; grind)) j2
 have M2 : Mv w _ _ (encB eg a cc ct (.slice (some ⟨g,0,none⟩) n cp) :: H1) := M1.sub (fun g => by simp only [cnt_append,cnt_cons,cnt_nil]; omega) (fun c hc => by simp only [List.mem_append,List.mem_cons] at hc ⊢; grind)
 have g1 := M2.cell 0 rfl 1
 have g2 := M2.frozen 0 rfl 1
 have M3 := M2.set 1 (.int .i64 (c1' : Int))
 obtain ⟨q',hq'⟩ : ∃ q',q + 1 = q' := ⟨_,rfl⟩
 rw [hq'] at M1 M2 M3 g1 g2 q1 j1 ⊢
 obtain ⟨b1,hb1⟩ : ∃ b1,b.dropLast ++ [q'] = b1 := ⟨_,rfl⟩
 rw [hb1] at j1 ⊢
 have hn1 : b1.length = n := by rw [← hb1,List.length_append,List.length_dropLast,List.length_singleton]; omega
 have hl1 : b1.getLastD 0 = q' := by rw [← hb1]; simp
 obtain ⟨x,hx⟩ : ∃ x,UInt8.ofNat (c1' / 2 ^ 19) = x := ⟨_,rfl⟩
 have hx8 := shr19 c1'
 have hm := mask19 c1' (by omega)
 rw [hx] at hx8 ⊢
 obtain ⟨kk1,kk2⟩ := j1.at_last (M3.sat.right (A := [_])) hn1 hn0
 rw [hl1] at kk1
 have y0 := M3.cell 0 rfl 3
 have y1 := M3.cell 0 rfl 1
 have K := Lib.hid (And.intro j1 (And.intro M3 hn1))
 obtain ⟨w1,hw1⟩ : ∃ w1,w1 = (w.setCell ⟨g,n - 1,none⟩ (.int .u8 (q'.toNat : Int))).setCell ⟨eg,1,none⟩ (.int .i64 (c1' : Int)) := ⟨_,rfl⟩
 rw [← hw1] at kk1 kk2 y0 y1 K
 have HW := Lib.hid hw1
 clear hn hr M0 hs hb hl hb0 hq EO j1 j2 M1 M2 M3 hb1 hn1 hl1 hx hqq hq2 hc1' hcc h255 hw1
 have h255' : q' ≠ 255 := fun e => hq3 (by rw [← hq'] at e; have := congrArg (fun x => x - 1) e; simpa using this)
 have q2 := u8_ne255b h255'
 have q3 := u8_ne255 h255'
 clear h255'
 clear hq3 hq'
 go_enter Try.func71,Try.ntmps71
 have Q1 := Lib.hid q1
 have CW := Lib.hid cw
 clear q1 cw
 go_upto_region 2 with fail
 have q1 := Q1.out
 go_upto_region 3 with fail
 clear q1
 have cw := CW.out
 go_upto_region 4 with fail
 clear cw
 rw [← HW.out]
 clear HW c0 c1 k1 k2 f1 g1 g2
 go_upto_region 8 with fail
 have M1' := K.out.2.1.alloc 5 #[.int .u8 (x.toNat : Int)]
 have y7 := M1'.cell 1 rfl 3
 have A1 : Hid (BV (w1.alloc (.cells #[.int .u8 (x.toNat : Int)] 5)).drew (.slice (some ⟨w1.heap.size,0,none⟩) 1 1) [x]) := Lib.hid (bv_one w1 x _ rfl)
 have K1 := Lib.hid (Mv.behind M1'.drew)
 clear M1'
 go_region_law (first
  | ((with_reducible refine step_appB (o := ⟨some 87,_,_,_,_,_⟩) (v := .slice (some ⟨g,0,none⟩) n cp) (u := .slice (some ⟨w1.heap.size,0,none⟩) 1 1) (l := b1) (r := [x]) (H := H1) rfl (.tmp 79) (.tmp 86) rfl ?_ ?_ K.out.1 K1.out.sat.left A1.out ?_ ?_); simp [Act.eval]; simp [Act.eval]; (rw [K.out.2.2]; simp; omega); intro v6 w6 H6 hr6 m6; obtain ⟨a6,c6,rfl⟩ := hr6.slice; have M6 := Mv.second (Mv.call K1.out m6); have y3 := M6.cell 0 rfl 3; have y1 := M6.cell 0 rfl 1; have z3 := M6.frozen 0 rfl 3; have K6 := Lib.hid (And.intro hr6 M6); clear hr6 m6 M6))
 all_goals
  have M7 := K6.out.2.set 3 (.slice a6 (b1.length + 1) c6)
  obtain ⟨w7,hw7⟩ : ∃ w7,w7 = w6.setCell ⟨eg,3,none⟩ (.slice a6 (b1.length + 1) c6) := ⟨_,rfl⟩
  rw [← hw7] at M7 ⊢
  have e1 := M7.cell 0 rfl 1
  have f1 := M7.frozen 0 rfl 1
  have e2 := M7.cell 0 rfl 2
  have f2 := M7.frozen 0 rfl 2
  have K7 := Lib.hid M7
  clear hw7 M7 y1 y3 z3
  go_wp2_with fail
  have M9 := (K7.out.set 1 (.int .i64 ((c1' % 2 ^ 19 : Nat) : Int))).set 2 (.int .i64 8)
  have h6 := K6.out.1
  simp only [List.length_append,List.length_cons,List.length_nil,Nat.zero_add] at h6
  exact bodyPost_end (results_none rfl _ _ _) rfl ⟨rfl,_,⟨_,H6,rfl,h6⟩,M9⟩
theorem out_any (eg : Nat) (e : EncM) (w : World) (H : List HB) (h : MqR eg e H) (hs : Sat w H) (hb : e.b ≠ []) (hl : e.b.length ≤ 90000000) (hc : e.c ≤ 1000000000000) :
  Calls Try.prog 71 #[.pointer (some ⟨eg,0,none⟩)] w fun e0 w' => e0 = .returned (.tuple #[]) ∧ ∃ H',MqR eg (outE e) H' ∧ Mv w H w' H' := by
 by_cases h1 : e.b.getLastD 0 = 255
 ·exact out_f eg e w H h hs hb hl hc h1
 ·by_cases h2 : e.c < 134217728
  ·exact out_n eg e w H h hs hb hl hc h1 h2
  ·by_cases h3 : e.b.getLastD 0 = 254
   ·exact out_cf eg e w H h hs hb hl hc h3 (by omega)
   ·exact out_cn eg e w H h hs hb hl hc h1 h3 (by omega)
end
end Go.Proofs.Ytnpoakabheeoeaa
