/- marks.Parse: a head's segments, one after another. marks.Parse: all of a head. marks.Parse: what it answers. A head's bytes, segment by segment: what Parse makes of them. A whole head's bytes: parsed as the head; each front is bad. -/
import Derived.Test.YtlhlhlabnjfhcaaPr
import Derived.Test.YtlhlhlabnjfhcaaPrG
import Derived.Test.YtlhlhlabnjfhcaaPrH
import Derived.Deep.MidRow
import Derived.Deep.RegionHeld3
import Derived.Test.YtlhlhlabnjfhcaaLzA
namespace Go.Proofs.Ytlhlhlabnjfhcaa
open Go.RowKit Go.Maps

theorem bodyF_len {l b l' : List UInt8} (h : bodyF l = some (b, l')) : b.length ≤ l.length ∧ l'.length + 2 ≤ l.length := by
  unfold bodyF at h
  split at h
  · cases h
  rename_i hc
  simp only [Option.some.injEq, Prod.mk.injEq] at h
  obtain ⟨rfl, rfl⟩ := h
  simp only [List.length_take, List.length_drop]
  omega

/-- what is wrong at a segment of marker m, if anything is that is covered here -/
inductive OneBad (f : Int → Option (List UInt8)) (m : Int) (l : List UInt8) : Int → Prop
  | mark : otherE m ≠ 0 → OneBad f m l (otherE m)
  | twice : m = 65362 ∨ m = 65372 → f m ≠ none → OneBad f m l 10
  | body : otherE m = 0 → otherL m = true → ¬((m = 65362 ∨ m = 65372) ∧ f m ≠ none) → bodyF l = none → OneBad f m l 10
  | codWay (b l' : List UInt8) : m = 65362 → f m = none → bodyF l = some (b, l') → b[9]? = some 0 → OneBad f m l 13
  | qcdWay (b l' : List UInt8) (c : UInt8) : m = 65372 → f m = none → bodyF l = some (b, l') → b[0]? = some c → (bits .and .u8 (c.toNat : Int) 31 != 0) = true → OneBad f m l 13
  | comShort (b l' : List UInt8) : m = 65380 → bodyF l = some (b, l') → b.length < 2 → OneBad f m l 10
/-- a segment that is read: the head, the segments seen, the bytes left behind it -/
inductive OneOk (f : Int → Option (List UInt8)) (h : HeadM) (m : Int) (l : List UInt8) : (Int → Option (List UInt8)) → HeadM → List UInt8 → Prop
  | skip : otherE m = 0 → otherL m = false → OneOk f h m l f h l
  | cod (d : CodD) (l' : List UInt8) : m = 65362 → f m = none → bodyF l = some (codB d 1, l') → d.ok → OneOk f h m l (setF f m (codB d 1)) { h with p := codP d h.p } l'
  | qcd (b l' : List UInt8) (c : UInt8) : m = 65372 → f m = none → bodyF l = some (b, l') → b[0]? = some c → (bits .and .u8 (c.toNat : Int) 31 != 0) = false → OneOk f h m l (setF f m b) h l'
  | com (b l' : List UInt8) : m = 65380 → bodyF l = some (b, l') → 2 ≤ b.length → OneOk f h m l (setF f m b) { h with com := b.drop 2 } l'
  | other (b l' : List UInt8) : otherE m = 0 → otherL m = true → m ≠ 65362 → m ≠ 65372 → m ≠ 65380 → bodyF l = some (b, l') → OneOk f h m l (setF f m b) h l'
/-- what is wrong at the first SOT -/
noncomputable def endE (f : Int → Option (List UInt8)) (h : HeadM) : Int :=
  match f 65362, f 65372 with
  | some _, some q => if frameE ⟨h.x, h.y, h.ox, h.oy, h.comps⟩ h.p ≠ 0 then frameE ⟨h.x, h.y, h.ox, h.oy, h.comps⟩ h.p else if q = qcdM ⟨h.x, h.y, h.ox, h.oy, h.comps⟩ h.p then 0 else 10
  | _, _ => 10
/-- the segments behind SIZ: the error, the head, the bytes behind SOT -/
inductive Run : (Int → Option (List UInt8)) → HeadM → List UInt8 → Int → HeadM → List UInt8 → Prop
  | short {f h l} : l.length < 2 → Run f h l 10 h l
  | sot {f h l} : 2 ≤ l.length → getI (l.take 2) = 65424 → Run f h l (endE f h) h (l.drop 2)
  | bad {f h l e} : 2 ≤ l.length → getI (l.take 2) ≠ 65424 → OneBad f (getI (l.take 2)) (l.drop 2) e → Run f h l e h l
  | ok {f h l f' h' l' e h2 l2} : 2 ≤ l.length → getI (l.take 2) ≠ 65424 → OneOk f h (getI (l.take 2)) (l.drop 2) f' h' l' → Run f' h' l' e h2 l2 → Run f h l e h2 l2
/-- a whole head -/
inductive All : List UInt8 → Int → HeadM → List UInt8 → Prop
  | soc {l} : rV 2 l 0 ≠ 65359 → All l 10 zH l
  | siz {l} : 2 ≤ l.length → getI (l.take 2) = 65359 → rV 2 (l.drop 2) 0 ≠ 65361 → All l 10 zH l
  | body {l} : 4 ≤ l.length → getI (l.take 2) = 65359 → getI ((l.drop 2).take 2) = 65361 → bodyF ((l.drop 2).drop 2) = none → All l 10 zH l
  | run {l m p l1 e h2 l2} : 4 ≤ l.length → getI (l.take 2) = 65359 → getI ((l.drop 2).take 2) = 65361 → bodyF ((l.drop 2).drop 2) = some (sizB m p, l1) → SizOk m p → Run (fun _ => none) (sizH m p zH) l1 e h2 l2 → All l e h2 l2

theorem OneBad.ne {f : Int → Option (List UInt8)} {m e : Int} {l : List UInt8} (h : OneBad f m l e) : e ≠ 0 := by
  cases h <;> first | assumption | decide
theorem OneOk.len {f f' : Int → Option (List UInt8)} {h h' : HeadM} {m : Int} {l l' : List UInt8} (o : OneOk f h m l f' h' l') : l'.length ≤ l.length := by
  cases o with
  | skip => exact Nat.le_refl _
  | cod d l' _ _ hb _ => have := (bodyF_len hb).2; omega
  | qcd b l' c _ _ hb => have := (bodyF_len hb).2; omega
  | com b l' _ hb => have := (bodyF_len hb).2; omega
  | other b l' _ _ _ _ _ hb => have := (bodyF_len hb).2; omega
theorem OneOk.comps {f f' : Int → Option (List UInt8)} {h h' : HeadM} {m : Int} {l l' : List UInt8} (o : OneOk f h m l f' h' l') : h'.comps = h.comps := by
  cases o <;> rfl
def FB (f : Int → Option (List UInt8)) : Prop := ∀ m b, f m = some b → b.length ≤ 1000000000
theorem FB.set_ {f : Int → Option (List UInt8)} (h : FB f) (k : Int) {l : List UInt8} (hl : l.length ≤ 1000000000) : FB (setF f k l) := by
  intro m b hb
  unfold setF at hb
  split at hb
  · injection hb with hb
    rw [← hb]
    exact hl
  · exact h m b hb
theorem OneOk.fb {f f' : Int → Option (List UInt8)} {h h' : HeadM} {m : Int} {l l' : List UInt8} (o : OneOk f h m l f' h' l') (hf : FB f) (hl : l.length ≤ 1000000000) : FB f' := by
  cases o with
  | skip => exact hf
  | cod d l' _ _ hb _ => exact hf.set_ _ (by have := (bodyF_len hb).1; omega)
  | qcd b l' c _ _ hb => exact hf.set_ _ (by have := (bodyF_len hb).1; omega)
  | com b l' _ hb => exact hf.set_ _ (by have := (bodyF_len hb).1; omega)
  | other b l' _ _ _ _ _ hb => exact hf.set_ _ (by have := (bodyF_len hb).1; omega)

theorem wf_small {m : Int} (h : 0 ≤ m ∧ m < 65536) : (Lit.int .i64 m).wf = true := by
  have h1 : IntKind.i64.min ≤ m := Int.le_trans (by decide : IntKind.i64.min ≤ 0) h.1
  have h2 : m ≤ IntKind.i64.max := Int.le_trans (by omega : m ≤ 65536) (by decide)
  unfold Lit.wf
  simp
  exact ⟨h1, h2⟩

theorem one_bad {w0 W : World} {B1 pb rb mb n : Nat} {h : HeadM} {cv mv : Value} {l : List UInt8} {f : Int → Option (List UInt8)} (s : St w0 B1 pb rb mb h cv mv l n f W) (m e : Int) (hm : 0 ≤ m ∧ m < 65536) (ho : OneBad f m l e) (hlen : n + l.length ≤ 1000000000) :
    Calls Try.prog 49 #[.pointer (some ⟨pb, 0, none⟩), .int .i64 m] W fun r W' => r = .returned (.int .i64 e) ∧ Below w0.heap.size w0 W' := by
  have hn : n < maxLen := by unfold maxLen; omega
  have hl : l.length ≤ 1000000000 := by omega
  have hwf := wf_small hm
  cases ho with
  | mark he => exact (one_mark pb m W (.inl he)).mono fun r W' q => ⟨q.1, q.2 ▸ s.b⟩
  | twice h1 h2 => exact (one_twice s m h1 h2).mono fun r W' q => ⟨q.1, q.2 ▸ s.b⟩
  | body h1 h2 h3 h4 => exact (one_nobody s m h1 h2 hwf h3 h4 hl).mono fun r W' q => ⟨q.1, s.b.trans (below_grown q.2 s.b.size (by rintro k ⟨⟩; exact s.r0))⟩
  | codWay b l' h1 h2 h3 h4 => subst h1; exact one_codway s h2 h4 h3 hl hn
  | qcdWay b l' c h1 h2 h3 h4 h5 => subst h1; exact one_qcdway s h2 c h4 h5 h3 hl hn
  | comShort b l' h1 h2 h3 => subst h1; exact one_comshort s h3 h2 hl hn

theorem one_good {w0 W : World} {B1 pb rb mb n : Nat} {h h' : HeadM} {cv mv : Value} {l l' : List UInt8} {f f' : Int → Option (List UInt8)} (s : St w0 B1 pb rb mb h cv mv l n f W) (m : Int) (hm : 0 ≤ m ∧ m < 65536) (ho : OneOk f h m l f' h' l') (hlen : n + l.length ≤ 1000000000) :
    Calls Try.prog 49 #[.pointer (some ⟨pb, 0, none⟩), .int .i64 m] W fun r W' => r = .returned (.int .i64 0) ∧ ∃ n' mv', n' ≤ n + 1 ∧ St w0 B1 pb rb mb h' cv mv' l' n' f' W' := by
  have hn : n < maxLen := by unfold maxLen; omega
  have hl : l.length ≤ 1000000000 := by omega
  have hwf := wf_small hm
  cases ho with
  | skip h1 h2 => exact (one_mark pb m W (.inr h2)).mono fun r W' q => ⟨by rw [q.1, h1], n, mv, by omega, q.2 ▸ s⟩
  | cod d l' h1 h2 h3 h4 => subst h1; exact (one_cod s h2 d h4 rfl h3 hl hn).mono fun r W' q => ⟨q.1, n + 1, mv, by omega, q.2⟩
  | qcd b l' c h1 h2 h3 h4 h5 => subst h1; exact (one_qcd s h2 c h4 h5 h3 hl hn).mono fun r W' q => ⟨q.1, n + 1, mv, by omega, q.2⟩
  | com b l' h1 h2 h3 => subst h1; exact (one_com s h3 (by have := (bodyF_len h2).1; omega) h2 hl hn).mono fun r W' q => ⟨q.1, n + 1, q.2.choose, by omega, q.2.choose_spec⟩
  | other b l' h1 h2 h3 h4 h5 h6 => exact (one_other s m h1 h2 hwf (by simpa using h3) (by simpa using h4) (by simpa using h5) h6 hl hn).mono fun r W' q => ⟨q.1, n + 1, mv, by omega, q.2⟩

theorem end_any {w0 W : World} {B1 pb rb mb n : Nat} {h : HeadM} {cv mv : Value} {l : List UInt8} {f : Int → Option (List UInt8)} (s : St w0 B1 pb rb mb h cv mv l n f W) (hl : h.comps.length ≤ 1000000000) (hf : FB f) :
    Calls Try.prog 48 #[.pointer (some ⟨pb, 0, none⟩)] W fun r W' => r = .returned (.int .i64 (endE f h)) ∧ Below W.heap.size W W' := by
  unfold endE
  cases h1 : f 65362 with
  | none => exact (end_none s (.inl h1)).mono fun r W' q => ⟨q.1, q.2 ▸ Below.refl _ _⟩
  | some b1 =>
    cases h2 : f 65372 with
    | none => exact (end_none s (.inr h2)).mono fun r W' q => ⟨q.1, q.2 ▸ Below.refl _ _⟩
    | some b2 =>
      simp only
      by_cases hF : frameE ⟨h.x, h.y, h.ox, h.oy, h.comps⟩ h.p = 0
      · rw [if_neg (by simp [hF])]
        have hP : picE ⟨h.x, h.y, h.ox, h.oy, h.comps⟩ = 0 := by
          by_cases hP : picE ⟨h.x, h.y, h.ox, h.oy, h.comps⟩ = 0
          · exact hP
          · unfold frameE at hF
            rw [if_pos hP] at hF
            exact hF
        obtain ⟨-, -, -, -, -, -, -, p4, pc⟩ := picE_zero hP
        have hW : waysB h.p = true := by
          unfold frameE at hF
          rw [if_neg (by simp [hP])] at hF
          split at hF
          · cases hF
          · split at hF
            · cases hF
            · split at hF
              · cases hF
              · rename_i h4
                simpa using h4
        have hlv : 0 ≤ h.p.lv ∧ h.p.lv ≤ 5 := by
          unfold waysB inB at hW
          simp at hW
          omega
        refine (end_bands s h1 h2 hl hF p4 ?_ hlv.1 hlv.2 (hf _ _ h2)).mono ?_
        · intro c hc
          have := List.all_eq_true.1 pc c hc
          unfold compB inB at this
          simp at this
          omega
        · rintro r W' ⟨k, rfl, hk, hk2, hB⟩
          refine ⟨?_, hB⟩
          by_cases hq : b2 = qcdM ⟨h.x, h.y, h.ox, h.oy, h.comps⟩ h.p
          · rw [if_pos hq, hk.2 hq]
          · rw [if_neg hq]
            rcases hk2 with h0 | h0
            · exact absurd (hk.1 h0) hq
            · rw [h0]
      · rw [if_pos hF]
        exact end_frame s h1 h2 hl hF
end Go.Proofs.Ytlhlhlabnjfhcaa
namespace Go.Proofs.Ytlhlhlabnjfhcaa
open Go.RowKit Go.Maps

def AllPost (w0 : World) (B1 pb rb mb : Nat) (e : Int) (h : HeadM) (l : List UInt8) (r : Ending) (W' : World) : Prop :=
  r = .returned (.int .i64 e) ∧ Below w0.heap.size w0 W' ∧ (e = 0 → ∃ n f cv mv, St w0 B1 pb rb mb h cv mv l n f W')

theorem Run.inv {f : Int → Option (List UInt8)} {h h2 : HeadM} {l l2 : List UInt8} {e : Int} (r : Run f h l e h2 l2) :
    (l.length < 2 ∧ e = 10) ∨ (2 ≤ l.length ∧ getI (l.take 2) = 65424 ∧ e = endE f h ∧ h2 = h ∧ l2 = l.drop 2) ∨ (2 ≤ l.length ∧ getI (l.take 2) ≠ 65424 ∧ OneBad f (getI (l.take 2)) (l.drop 2) e) ∨ (∃ f' h' l', 2 ≤ l.length ∧ getI (l.take 2) ≠ 65424 ∧ OneOk f h (getI (l.take 2)) (l.drop 2) f' h' l' ∧ Run f' h' l' e h2 l2) := by
  cases r with
  | short h1 => exact .inl ⟨h1, rfl⟩
  | sot h1 h2 => exact .inr (.inl ⟨h1, h2, rfl, rfl, rfl⟩)
  | bad h1 h2 h3 => exact .inr (.inr (.inl ⟨h1, h2, h3⟩))
  | ok h1 h2 h3 h4 => exact .inr (.inr (.inr ⟨_, _, _, h1, h2, h3, h4⟩))

set_option maxRecDepth 100000 in
set_option maxHeartbeats 4000000 in
theorem all_any {w0 W : World} {pb rb mb : Nat} {l l2 : List UInt8} {e : Int} {h2 : HeadM} (hp : Blk W pb 66 (prsA rb mb zH nilV nilV)) (hr : Rdr W rb l 0) (hs : Seen W mb 0 (fun _ => none)) (hb : Below w0.heap.size w0 W) (r0 : w0.heap.size ≤ rb) (rp : rb < pb) (rm : rb < mb) (hl : l.length ≤ 1000000000) (ha : All l e h2 l2) :
    Calls Try.prog 27 #[.pointer (some ⟨pb, 0, none⟩)] W fun r W' => AllPost w0 W.heap.size pb rb mb e h2 l2 r W' := by
  have c0 : W.cell? ⟨pb, 0, none⟩ = some (.pointer (some ⟨rb, 0, none⟩)) := hp.cell 0
  have hne : some pb ≠ some rb := by intro e; injection e with e; omega
  have G := Lib.hid (get_any rb l 0 2 W hr (by omega) (by decide) (by decide))
  have bbad : ∀ W', W.grownBy W' (some rb) → Below w0.heap.size w0 W' := fun W' hg => hb.trans (below_grown hg hb.size (by rintro k ⟨⟩; exact r0))
  have BB := Lib.hid bbad
  have NB := Lib.hid hr.noB
  have HS := Lib.hid (And.intro hp (And.intro hs hb))
  have HI := Lib.hid (And.intro r0 (And.intro rp (And.intro rm hl)))
  clear hr bbad hp hs hb
  cases ha with
  | soc h1 =>
    have d1 : (rV 2 l 0 != 65359) = true := by simpa using h1
    generalize rV 2 l 0 = v at *
    generalize rL 2 l 0 = l1 at *
    generalize rE 2 l 0 = e1 at *
    go_enter Try.func27, Try.ntmps27
    go_wp2_with (go_at_call 45; refine G.out.mono ?_; rintro e w1 ⟨rfl, -, hg1⟩)
    go_ret
    exact ⟨rfl, BB.out _ hg1, fun h => absurd h (by decide)⟩
  | siz h1 h2 h3 =>
    have d1 : (rV 2 (l.drop 2) 0 != 65361) = true := by simpa using h3
    have G1 := G.out
    rw [show rV 2 l 0 = 65359 by unfold rV; rw [if_pos ⟨rfl, h1⟩]; exact h2, show rL 2 l 0 = l.drop 2 by unfold rL; rw [if_pos ⟨rfl, h1⟩], show rE 2 l 0 = 0 by unfold rE; rw [if_pos ⟨rfl, h1⟩]] at G1
    have HG := Lib.hid G1
    have G2 := Lib.hid (fun W' (hr : Rdr W' rb (l.drop 2) 0) => get_any rb (l.drop 2) 0 2 W' hr (by simp; omega) (by decide) (by decide))
    generalize rV 2 (l.drop 2) 0 = v at *
    generalize rL 2 (l.drop 2) 0 = l2 at *
    generalize rE 2 (l.drop 2) 0 = e2 at *
    generalize l.drop 2 = l1 at *
    clear G G1 h1 h2 h3
    go_enter Try.func27, Try.ntmps27
    go_wp2_with (first | (go_at_call 45; refine (G2.out _ HR1.out).mono ?_; rintro e w2 ⟨rfl, -, hg2⟩) | (go_at_call 45; refine HG.out.mono ?_; rintro e w1 ⟨rfl, hr1, hg1⟩; have c1 : w1.cell? ⟨pb, 0, none⟩ = some (.pointer (some ⟨rb, 0, none⟩)) := (HS.out.1.grown hg1 hne).cell 0; have HR1 := Lib.hid hr1; clear hr1))
    go_ret
    exact ⟨rfl, BB.out _ (hg1.trans hg2), fun h => absurd h (by decide)⟩
  | body h1 h2 h3 h4 =>
    have G1 := G.out
    rw [show rV 2 l 0 = 65359 by unfold rV; rw [if_pos ⟨rfl, by omega⟩]; exact h2, show rL 2 l 0 = l.drop 2 by unfold rL; rw [if_pos ⟨rfl, by omega⟩], show rE 2 l 0 = 0 by unfold rE; rw [if_pos ⟨rfl, by omega⟩]] at G1
    have HG := Lib.hid G1
    have G2 : Hid (∀ W', Rdr W' rb (l.drop 2) 0 → Calls Try.prog 45 #[.pointer (some ⟨rb, 0, none⟩), .int .i64 2] W' fun e w' => e = .returned (.int .i64 65361) ∧ Rdr w' rb ((l.drop 2).drop 2) 0 ∧ W'.grownBy w' (some rb)) := Lib.hid (fun W' (hr : Rdr W' rb (l.drop 2) 0) => by
      have := get_ok rb (l.drop 2) 2 W' hr (by simp; omega) (by decide) (by decide) (by simp; omega)
      rw [h3] at this
      exact this)
    have hll : ((l.drop 2).drop 2).length ≤ 1000000000 := by simp; have := HI.out.2.2.2; omega
    have HL := Lib.hid (And.intro h4 hll)
    clear h3 h2 h1 h4 hll G G1
    generalize (l.drop 2).drop 2 = l2 at *
    generalize l.drop 2 = l1 at *
    go_enter Try.func27, Try.ntmps27
    go_wp2_with (first | (go_at_call 45; refine (G2.out _ HR1.out.1).mono ?_; rintro e w2 ⟨rfl, hr2, hg2⟩; have HR2 := Lib.hid (And.intro hr2 (And.intro (HR1.out.2.1.grown hg2 hne) (HR1.out.2.2.trans hg2))); clear hr2 hg2) | (go_at_call 45; refine HG.out.mono ?_; rintro e w1 ⟨rfl, hr1, hg1⟩; have hp1 := HS.out.1.grown hg1 hne; have c1 : w1.cell? ⟨pb, 0, none⟩ = some (.pointer (some ⟨rb, 0, none⟩)) := hp1.cell 0; have HR1 := Lib.hid (And.intro hr1 (And.intro hp1 hg1)); clear hr1 hp1 hg1) | (go_at_call 46; refine (body_bad pb rb _ l2 _ HR2.out.2.1 rfl HR2.out.1 HL.out.2 HL.out.1).mono ?_; rintro e w3 ⟨v, rfl, hg3⟩))
    go_ret
    exact ⟨rfl, BB.out _ (HR2.out.2.2.trans hg3), fun h => absurd h (by decide)⟩
  | @run m p l1 e h2 l2 h1 h2' h3 h4 h5 h6 =>
    have G1 := G.out
    rw [show rV 2 l 0 = 65359 by unfold rV; rw [if_pos ⟨rfl, by omega⟩]; exact h2', show rL 2 l 0 = l.drop 2 by unfold rL; rw [if_pos ⟨rfl, by omega⟩], show rE 2 l 0 = 0 by unfold rE; rw [if_pos ⟨rfl, by omega⟩]] at G1
    have HG := Lib.hid G1
    have G2 : Hid (∀ W', Rdr W' rb (l.drop 2) 0 → Calls Try.prog 45 #[.pointer (some ⟨rb, 0, none⟩), .int .i64 2] W' fun e w' => e = .returned (.int .i64 65361) ∧ Rdr w' rb ((l.drop 2).drop 2) 0 ∧ W'.grownBy w' (some rb)) := Lib.hid (fun W' (hr : Rdr W' rb (l.drop 2) 0) => by
      have := get_ok rb (l.drop 2) 2 W' hr (by simp; omega) (by decide) (by decide) (by simp; omega)
      rw [h3] at this
      exact this)
    have hll : ((l.drop 2).drop 2).length ≤ 1000000000 := by simp; have := HI.out.2.2.2; omega
    have HL := Lib.hid (And.intro h4 hll)
    clear h3 h2' h1 h4 hll G G1
    generalize (l.drop 2).drop 2 = lb at *
    generalize l.drop 2 = la at *
    go_enter Try.func27, Try.ntmps27
    go_wp2_with (first | (go_at_call 45; refine (G2.out _ HR1.out.1).mono ?_; rintro e w2 ⟨rfl, hr2, hg2⟩; have HR2 := Lib.hid (And.intro hr2 (And.intro (HR1.out.2.1.grown hg2 hne) (HR1.out.2.2.trans hg2))); clear hr2 hg2) | (go_at_call 45; refine HG.out.mono ?_; rintro e w1 ⟨rfl, hr1, hg1⟩; have hp1 := HS.out.1.grown hg1 hne; have c1 : w1.cell? ⟨pb, 0, none⟩ = some (.pointer (some ⟨rb, 0, none⟩)) := hp1.cell 0; have HR1 := Lib.hid (And.intro hr1 (And.intro hp1 hg1)); clear hr1 hp1 hg1) | (go_at_call 46; refine (body_ok pb rb _ lb (sizB m p) l1 _ HR2.out.2.1 rfl HR2.out.1 HL.out.2 HL.out.1).mono ?_; rintro e w3 ⟨v, rfl, ho3, hr3, hg3⟩; obtain ⟨va, vc, rfl⟩ := owns_slice ho3; have HR3 := Lib.hid (And.intro ho3 (And.intro hr3 (And.intro (HR2.out.2.1.grown hg3 hne) (HR2.out.2.2.trans hg3)))); clear ho3 hr3 hg3) | (go_at_call 47; refine (size_ok pb rb mb zH nilV _ m p _ HR3.out.2.2.1 HR3.out.1.bv h5).mono ?_; rintro e w4 ⟨rfl, cv, hp4, hc4, hg4⟩; have c4 : w4.cell? ⟨pb, 0, none⟩ = some (.pointer (some ⟨rb, 0, none⟩)) := hp4.cell 0; have HR4 := Lib.hid (And.intro hp4 (And.intro hc4 hg4)); clear hp4 hc4 hg4))
    have hs4 : St w0 W.heap.size pb rb mb (sizH m p zH) cv nilV l1 0 (fun _ => none) w4 := by
      obtain ⟨hp4, hc4, hg4⟩ := HR4.out
      obtain ⟨ho3, hr3, hp3, hg3⟩ := HR3.out
      obtain ⟨hp, hs, hb⟩ := HS.out
      have hs3 := hs.keep hg3 (by intro e; injection e with e; have := HI.out.2.2.1; omega) (by rintro g ⟨⟩; exact NB.out)
      have hs5 := hs3.keep hg4 (fun e => hs3.ne_blk hp3 (by injection e with e; exact e.symm)) (by rintro g ⟨⟩; exact hp3.noB (by decide))
      have hmb : mb < W.heap.size := by
        obtain ⟨es, clock, hb⟩ := hs.isMap
        exact (Array.getElem?_eq_some_iff.1 hb).1
      have hb3 := below_grown hg3 hb.size (by rintro k ⟨⟩; exact HI.out.1)
      have hb4 := below_grown hg4 (Nat.le_trans hb.size hg3.size) (by rintro k ⟨⟩; have := HI.out.1; have := HI.out.2.1; omega)
      exact ⟨hp4, hr3.grown hg4 HI.out.2.1, hs5, hc4.base hg3.size, OB.nil _, (hb.trans hb3).trans hb4, HI.out.1, HI.out.2.1, HI.out.2.2.1, hp.lt, hmb, Nat.le_trans hg3.size hg4.size⟩
    have hn1 : 0 + l1.length ≤ 1000000000 := by have := (bodyF_len HL.out.1).2; have := HL.out.2; omega
    have hcl : (sizH m p zH).comps.length ≤ 1000000000 := by have := h5.n; unfold sizH; simp; omega
    clear HR4 HR3 HR2 HR1 HG G2 c0 c1 c4 HL
    go_loopg [5, 6] l1.length (fun g s5 s6 wx => ∃ l f h n cv mv, g = l.length ∧ St w0 W.heap.size pb rb mb h cv mv l n f wx ∧ Run f h l e h2 l2 ∧ n + l.length ≤ 1000000000 ∧ h.comps.length ≤ 1000000000 ∧ FB f)
    case atStart => exact ⟨l1, _, _, 0, cv, nilV, rfl, hs4, h6, hn1, hcl, fun m b hb => by cases hb⟩
    case round =>
      obtain ⟨wy, rfl⟩ : ∃ wy : World, wy = wr := ⟨_, rfl⟩
      obtain ⟨l, f, h, n, cv, mv, rfl, s, hrun, hn, hc, hf⟩ := hrel
      clear hs4 h6 hn1 hcl
      have c0 : wy.cell? ⟨pb, 0, none⟩ = some (.pointer (some ⟨rb, 0, none⟩)) := s.p.cell 0
      have L := Lib.hid (left_any rb l 0 wy s.r)
      rw [leftI_ok] at L
      have SS := Lib.hid s
      clear s
      rcases hrun.inv with ⟨h1, he⟩ | ⟨h1, h2e, he, hh, hl2⟩ | ⟨h1, h2e, h3⟩ | ⟨f', h', l', h1, h2e, h3, h4⟩
      · subst he
        have d1 : decide ((l.length : Int) < 2) = true := by simp; omega
        clear h1 hn hrun
        generalize l.length = N at *
        go_wp2_with (go_at_call 28; refine L.out.mono ?_; rintro e w1 ⟨rfl, rfl⟩)
        go_ret
        exact ⟨rfl, SS.out.b, fun h => absurd h (by decide)⟩
      · subst he
        have HE := Lib.hid (And.intro hh hl2)
        clear hh hl2
        have d1 : decide ((l.length : Int) < 2) = false := by simp; omega
        have G := get_ok rb l 2 wy SS.out.r (by omega) (by decide) (by decide) h1
        rw [h2e] at G
        have HG := Lib.hid G
        clear h1 h2e hn G hrun
        generalize l.length = N at *
        go_wp2_with (first | (go_at_call 28; refine L.out.mono ?_; rintro e w1 ⟨rfl, rfl⟩) | (go_at_call 45; refine HG.out.mono ?_; rintro e w1 ⟨rfl, hr1, hg1⟩; have S1 := Lib.hid (SS.out.read hg1 hr1); clear hr1 hg1) | (go_at_call 48; refine (end_any S1.out hc hf).mono ?_; rintro e w2 ⟨rfl, hB2⟩))
        go_ret
        exact ⟨rfl, S1.out.b.trans (hB2.mono S1.out.b.size), fun _ => ⟨n, f, cv, mv, by rw [HE.out.1, HE.out.2]; exact S1.out.below hB2⟩⟩
      · have d1 : decide ((l.length : Int) < 2) = false := by simp; omega
        have G := Lib.hid (get_ok rb l 2 wy SS.out.r (by have := SS.out.b.size; omega) (by decide) (by decide) h1)
        have hm := getI2 (l.take 2) (by rw [List.length_take]; omega)
        generalize getI (l.take 2) = mk at *
        have d2 : (mk == 65424) = false := by simpa using h2e
        have d3 : (e != 0) = true := by simpa using h3.ne
        have O : Hid (∀ w1, St w0 W.heap.size pb rb mb h cv mv (l.drop 2) n f w1 → Calls Try.prog 49 #[.pointer (some ⟨pb, 0, none⟩), .int .i64 mk] w1 fun r W' => r = .returned (.int .i64 e) ∧ Below w0.heap.size w0 W') := Lib.hid fun w1 s1 => one_bad s1 mk e hm h3 (by simp; omega)
        have NE := Lib.hid h3.ne
        clear h1 h2e h3 hn hrun
        generalize l.length = N at *
        generalize l.drop 2 = l' at *
        go_wp2_with (first | (go_at_call 28; refine L.out.mono ?_; rintro e w1 ⟨rfl, rfl⟩) | (go_at_call 45; refine G.out.mono ?_; rintro e w1 ⟨rfl, hr1, hg1⟩; have S1 := Lib.hid (SS.out.read hg1 hr1); clear hr1 hg1) | (go_at_call 49; refine (O.out _ S1.out).mono ?_; rintro e w2 ⟨rfl, hB2⟩))
        go_ret
        exact ⟨rfl, hB2, fun h => absurd h NE.out⟩
      · have d1 : decide ((l.length : Int) < 2) = false := by simp; omega
        have G := Lib.hid (get_ok rb l 2 wy SS.out.r (by have := SS.out.b.size; omega) (by decide) (by decide) h1)
        have hm := getI2 (l.take 2) (by rw [List.length_take]; omega)
        generalize getI (l.take 2) = mk at *
        have d2 : (mk == 65424) = false := by simpa using h2e
        have O : Hid (∀ w1, St w0 W.heap.size pb rb mb h cv mv (l.drop 2) n f w1 → Calls Try.prog 49 #[.pointer (some ⟨pb, 0, none⟩), .int .i64 mk] w1 fun r W' => r = .returned (.int .i64 0) ∧ ∃ n' mv', n' ≤ n + 1 ∧ St w0 W.heap.size pb rb mb h' cv mv' l' n' f' W') := Lib.hid fun w1 s1 => one_good s1 mk hm h3 (by simp; omega)
        have hll := h3.len
        rw [List.length_drop] at hll
        have hl2 : l'.length + 2 ≤ l.length := by omega
        have hcc := h3.comps
        have hfb := h3.fb hf (by simp; omega)
        have HC := Lib.hid (And.intro hcc (And.intro hfb (And.intro hl2 hn)))
        clear h1 h2e h3 hll hl2 hcc hfb hn hrun
        obtain ⟨N, hN⟩ : ∃ N, l.length = N := ⟨_, rfl⟩
        rw [hN] at d1 L
        have HN := Lib.hid hN
        clear hN
        generalize l.drop 2 = lx at *
        go_wp2_with (first | (go_at_call 28; refine L.out.mono ?_; rintro e w1 ⟨rfl, rfl⟩) | (go_at_call 45; refine G.out.mono ?_; rintro e w1 ⟨rfl, hr1, hg1⟩; have S1 := Lib.hid (SS.out.read hg1 hr1); clear hr1 hg1) | (go_at_call 49; refine (O.out _ S1.out).mono ?_; rintro e w2 ⟨rfl, n', mv', hn', s2⟩; have S2 := Lib.hid s2; clear s2))
        go_roundg l'.length
        case measure => have := HC.out.2.2.1; omega
        case rel => exact ⟨l', f', h', n', cv, mv', rfl, S2.out, h4, by have := HC.out.2.2; omega, by rw [HC.out.1]; exact hc, HC.out.2.1⟩
end Go.Proofs.Ytlhlhlabnjfhcaa
namespace Go.Proofs.Ytlhlhlabnjfhcaa
open Go.RowKit Go.Maps

theorem Run.len {f : Int → Option (List UInt8)} {h h2 : HeadM} {l l2 : List UInt8} {e : Int} (r : Run f h l e h2 l2) : l2.length ≤ l.length := by
  induction r with
  | short h1 => exact Nat.le_refl _
  | sot h1 h2 => simp
  | bad h1 h2 h3 => exact Nat.le_refl _
  | ok h1 h2 h3 h4 ih =>
    have := h3.len
    rw [List.length_drop] at this
    omega
theorem All.len {h2 : HeadM} {l l2 : List UInt8} {e : Int} (a : All l e h2 l2) : l2.length ≤ l.length := by
  cases a with
  | run h1 h2 h3 h4 h5 h6 =>
    have := h6.len
    have := (bodyF_len h4).2
    simp at this
    omega
  | _ => exact Nat.le_refl _

def putAt (old : Array Value) (o : Nat) : List Value → Array Value
  | [] => old
  | v :: r => putAt (old.setIfInBounds o v) (o + 1) r
theorem putAt_size : ∀ (vs : List Value) (old : Array Value) (o : Nat), (putAt old o vs).size = old.size
  | [], _, _ => rfl
  | v :: r, old, o => by rw [putAt, putAt_size r]; simp
theorem putAt_get : ∀ (vs : List Value) (old : Array Value) (o i : Nat), o + vs.length ≤ old.size → (putAt old o vs)[i]? = if o ≤ i ∧ i < o + vs.length then vs[i - o]? else old[i]?
  | [], old, o, i, _ => by rw [putAt, if_neg (by simp)]
  | v :: r, old, o, i, h => by
    rw [putAt, putAt_get r _ _ _ (by simp at h ⊢; omega)]
    simp only [List.length_cons] at h ⊢
    by_cases h1 : o + 1 ≤ i ∧ i < o + 1 + r.length
    · rw [if_pos h1, if_pos (by omega)]
      obtain ⟨k, rfl⟩ : ∃ k, i = o + 1 + k := ⟨i - (o + 1), by omega⟩
      rw [show o + 1 + k - (o + 1) = k by omega, show o + 1 + k - o = k + 1 by omega, List.getElem?_cons_succ]
    · rw [if_neg h1]
      by_cases h2 : i = o
      · subst h2
        rw [if_pos (by omega), Nat.sub_self, Array.getElem?_setIfInBounds_self_of_lt (by omega)]
        rfl
      · rw [if_neg (by omega), Array.getElem?_setIfInBounds_ne (by omega)]
theorem putAt_all (vs : List Value) (old : Array Value) (h : old.size = vs.length) : putAt old 0 vs = vs.toArray := by
  apply Array.ext_getElem?
  intro i
  have e : vs.toArray[i]? = vs[i]? := by simp
  rw [putAt_get vs old 0 i (by omega), e]
  by_cases hi : i < vs.length
  · rw [if_pos (by omega), Nat.sub_zero]
  · rw [if_neg (by omega), List.getElem?_eq_none (by omega)]
    exact Array.getElem?_eq_none (by omega)
theorem Blk.cells_ : ∀ (vs : List Value) (o : Nat) {w : World} {g : Nat} {t : TypeId} {old : Array Value} (_ : Blk w g t old), Blk (w.setCells g o vs) g t (putAt old o vs)
  | [], _, _, _, _, _, h => h
  | v :: r, o, _w, _g, _t, _old, h => Blk.cells_ r (o + 1) (h.set_ o v)
theorem only_cells {g : Nat} : ∀ (vs : List Value) (o : Nat) {a w : World} (_ : a.grownBy w (some g)), a.grownBy (w.setCells g o vs) (some g)
  | [], _, _, _, h => h
  | v :: r, o, _, _w, h => only_cells r (o + 1) (only_setCell h (p := ⟨g, o, none⟩) (.inl rfl) v)

theorem step_load_mid {P : Program} {w : World} {ops : Array Oper} {o : Oper} {a : Act} {K : Act → World → Prop} {Q : Exit → Act → World → Prop} {E : Prop} (hgd : o.guard = none) (ty : TypeId) (x : Operand) (ho : o.op = .load ty x)
    (g k : Nat) (cs : List Value) (d : TypeDesc) (hu : P.underlying ty = some d) (hd : d.isRow = true) (hi : (P.info? ty).map (·.size) = some cs.length)
    (hx : a.eval x = .pointer (some ⟨g, k, none⟩)) (hg : w.rangeAt g k cs) (h : K (a.put o.dst (.agg cs.toArray)) w) :
    if Region.wanted o (yielded ops a.tmps) = true then Oper.wp P o a w K Q else E := by
  have hw : Region.wanted o (yielded ops a.tmps) = true := by simp [Region.wanted, hgd]
  rw [if_pos hw]
  exact wp_load_mid ty x ho g k hx cs d hg hu hd hi h
theorem St.drewSt {w0 W : World} {B1 pb rb mb n : Nat} {h : HeadM} {cv mv : Value} {l : List UInt8} {f : Int → Option (List UInt8)} (s : St w0 B1 pb rb mb h cv mv l n f W) : St w0 B1 pb rb mb h cv mv l n f W.drew := s.below (Below.refl _ _).drew
theorem parse_end {w w0 w3 wd : World} {B1 pb rb mb n g : Nat} {h : HeadM} {cv mv : Value} {l : List UInt8} {f : Int → Option (List UInt8)} {old : Array Value} (hb : Blk wd g 33 old) (s : St w0 B1 pb rb mb h cv mv l n f wd) (hB : Below g w w3) (hd : wd = w3.drew) (hg : g < B1) (cs : Array Value) :
    Blk (wd.setRow g cs) g 33 cs ∧ Below g w (wd.setRow g cs) ∧ CompsOwn (wd.setRow g cs) B1 cv h.comps ∧ OB (wd.setRow g cs) mv h.com := by
  have hG : wd.grownBy (wd.setRow g cs) (some g) := only_row (World.grownBy.refl _ _) cs
  exact ⟨hb.row cs, below_row (by rw [hd]; exact hB.drew) (Nat.le_refl _) cs, s.c.grown hG hg, s.m.grown hG (by rintro k ⟨⟩; exact hb.noB (by decide))⟩

def imgH (h : HeadM) : ImgD := ⟨h.x, h.y, h.ox, h.oy, h.comps⟩

set_option maxRecDepth 100000 in
set_option maxHeartbeats 2000000 in
theorem parse_err (v : Value) (l l2 : List UInt8) (er : Int) (h2 : HeadM) (w : World) (hv : BV w v l) (hl : l.length ≤ 1000000000) (ha : All l er h2 l2) (her : er ≠ 0) :
    Calls Try.prog 16 #[v] w fun e w' => e = .returned (.tuple #[.agg (headA ⟨0, 0, 0, 0, []⟩ nilV zP nilV), .int .i64 0, .int .i64 er]) ∧ Below w.heap.size w w' := by
  have HV := Lib.hid hv
  obtain ⟨va, vc, rfl, -⟩ := hv
  obtain ⟨w0, hw0⟩ : ∃ w0, w0 = w.alloc (.cells (headA ⟨0, 0, 0, 0, []⟩ nilV zP nilV) 33) := ⟨_, rfl⟩
  have hB0 : Below w.heap.size w w0 := by rw [hw0]; exact (Below.refl _ _).alloc (Nat.le_refl _) _
  have hh0 : Blk w0 w.heap.size 33 (headA ⟨0, 0, 0, 0, []⟩ nilV zP nilV) := by rw [hw0]; exact Blk.new _ _ _
  have hs0 : w0.heap.size = w.heap.size + 1 := by rw [hw0]; simp
  unfold headA nilV zP at hw0
  have HE : (er != 0) = true := by simp [her]
  have HER := Lib.hid her
  clear her
  go_enter Try.func16, Try.ntmps16
  go_upto_region 1 with fail
  simp only [← hw0]
  clear hw0
  go_wp2_with fail
  refine (new_any _ l w0 (HV.out.keep hB0) (by omega)).mono ?_
  rintro e w1 ⟨rb, rfl, hrb, hr1, hB1⟩
  have hrlt := hr1.lt
  have HH := Lib.hid (And.intro hr1 hB1)
  have H0 := Lib.hid (And.intro hB0 hh0)
  clear hB0 hh0 hB1 hr1
  have hmm : ∀ W : World, (Instr.makeMap 64 none).run Try.prog W = .ok (.map (some W.heap.size)) (W.alloc (.map #[] 0)) := fun _ => rfl
  go_upto_region 2 with fail
  obtain ⟨hr1, hB1⟩ := HH.out
  obtain ⟨w2, hw2⟩ : ∃ w2, w2 = (w1.alloc (.map #[] 0)).alloc (.cells (prsA rb w1.heap.size zH nilV nilV) 66) := ⟨_, rfl⟩
  have hp2 : Blk w2 (w1.heap.size + 1) 66 (prsA rb w1.heap.size zH nilV nilV) := by rw [hw2]; exact Blk.snd _ _ _ _
  have hb12 : Below w1.heap.size w1 w2 := by rw [hw2]; exact ((Below.refl _ _).alloc (Nat.le_refl _) _).alloc (by simp) _
  have hs2 : Seen w2 w1.heap.size 0 (fun _ => none) := by
    rw [hw2]
    exact (Seen.made w1).below ((Below.refl _ _).alloc (Nat.le_refl _) _)
  have hr2 := hr1.below hb12 hr1.lt
  have hB2 := hB1.trans (hb12.mono hB1.size)
  have hsz := hB1.size
  unfold prsA zH nilV zP at hw2
  simp only [← hw2]
  clear hw2 HH hr1 hB1 hb12
  have A2 := Lib.hid (all_any hp2 hr2 hs2 hB2 hrb (by omega) (by omega) hl ha)
  clear hp2 hr2 hs2 hB2 ha
  go_wp2_with fail
  refine A2.out.mono ?_
  rintro e w3 ⟨rfl, hB3, -⟩
  have hh3 := H0.out.2.below hB3 (by omega)
  have HB3 := Lib.hid hB3
  have hb4 : Below w.heap.size w (w3.setRow w.heap.size (headA ⟨0, 0, 0, 0, []⟩ nilV zP nilV)) := below_row (H0.out.1.trans (hB3.mono H0.out.1.size)) (Nat.le_refl _) _
  have HH3 : Hid (w3.heap[w.heap.size]? = some (.cells (headA ⟨0, 0, 0, 0, []⟩ nilV zP nilV) 33 (0, 0))) := hh3
  have hr4 := Blk.row (w := w3) hh3 (headA ⟨0, 0, 0, 0, []⟩ nilV zP nilV)
  clear hB3 hh3 A2 hmm
  go_upto_region 4 with fail
  iterate 7 go_step
  refine wpList_store_row rfl 33 (.tmp 2) (.tmp 16) rfl w.heap.size (headA ⟨0, 0, 0, 0, []⟩ nilV zP nilV) rfl rfl 33 (headA ⟨0, 0, 0, 0, []⟩ nilV zP nilV) HH3.out (by kernel_rfl) rfl (by kernel_rfl) ?_
  generalize w3.setRow w.heap.size _ = w4 at hr4 hb4 ⊢
  have HR := Lib.hid hr4
  clear hr4
  go_wp2_with fail
  exact bodyPost_ret (v := .tuple #[.agg (headA ⟨0, 0, 0, 0, []⟩ nilV zP nilV), .int .i64 0, .int .i64 er]) (results_row3 Try.results16 _ _ w.heap.size 33 _ (0, 0) _ rfl HR.out Try.underlying33 rfl (by kernel_rfl)) rfl ⟨rfl, hb4⟩

set_option maxRecDepth 100000 in
set_option maxHeartbeats 2000000 in
theorem parse_ok (v : Value) (l l2 : List UInt8) (h2 : HeadM) (w : World) (hv : BV w v l) (hl : l.length ≤ 1000000000) (ha : All l 0 h2 l2) :
    Calls Try.prog 16 #[v] w fun e w' => ∃ cv mv, e = .returned (.tuple #[.agg (headA (imgH h2) cv h2.p mv), .int .i64 ((l.length : Int) - l2.length - 2), .int .i64 0]) ∧ CompsRd w' cv h2.comps ∧ BV w' mv h2.com ∧ Below w.heap.size w w' := by
  have HV := Lib.hid hv
  obtain ⟨va, vc, rfl, -⟩ := hv
  obtain ⟨w0, hw0⟩ : ∃ w0, w0 = w.alloc (.cells (headA ⟨0, 0, 0, 0, []⟩ nilV zP nilV) 33) := ⟨_, rfl⟩
  have hB0 : Below w.heap.size w w0 := by rw [hw0]; exact (Below.refl _ _).alloc (Nat.le_refl _) _
  have hh0 : Blk w0 w.heap.size 33 (headA ⟨0, 0, 0, 0, []⟩ nilV zP nilV) := by rw [hw0]; exact Blk.new _ _ _
  have hs0 : w0.heap.size = w.heap.size + 1 := by rw [hw0]; simp
  unfold headA nilV zP at hw0
  go_enter Try.func16, Try.ntmps16
  go_upto_region 1 with fail
  simp only [← hw0]
  clear hw0
  go_wp2_with fail
  refine (new_any _ l w0 (HV.out.keep hB0) (by omega)).mono ?_
  rintro e w1 ⟨rb, rfl, hrb, hr1, hB1⟩
  have hrlt := hr1.lt
  have HH := Lib.hid (And.intro hr1 hB1)
  have H0 := Lib.hid (And.intro hB0 hh0)
  clear hB0 hh0 hB1 hr1
  have hmm : ∀ W : World, (Instr.makeMap 64 none).run Try.prog W = .ok (.map (some W.heap.size)) (W.alloc (.map #[] 0)) := fun _ => rfl
  go_upto_region 2 with fail
  obtain ⟨hr1, hB1⟩ := HH.out
  obtain ⟨w2, hw2⟩ : ∃ w2, w2 = (w1.alloc (.map #[] 0)).alloc (.cells (prsA rb w1.heap.size zH nilV nilV) 66) := ⟨_, rfl⟩
  have hp2 : Blk w2 (w1.heap.size + 1) 66 (prsA rb w1.heap.size zH nilV nilV) := by rw [hw2]; exact Blk.snd _ _ _ _
  have hb12 : Below w1.heap.size w1 w2 := by rw [hw2]; exact ((Below.refl _ _).alloc (Nat.le_refl _) _).alloc (by simp) _
  have hs2 : Seen w2 w1.heap.size 0 (fun _ => none) := by
    rw [hw2]
    exact (Seen.made w1).below ((Below.refl _ _).alloc (Nat.le_refl _) _)
  have hr2 := hr1.below hb12 hr1.lt
  have hB2 := hB1.trans (hb12.mono hB1.size)
  have hsz := hB1.size
  unfold prsA zH nilV zP at hw2
  simp only [← hw2]
  clear hw2 HH hr1 hB1 hb12
  have HL2 := Lib.hid ha.len
  have HLT : Hid (w.heap.size < w2.heap.size) := Lib.hid (by have := hp2.lt; omega)
  have HLT : Hid (w.heap.size < w2.heap.size) := Lib.hid (by have := hp2.lt; omega)
  have HLT : Hid (w.heap.size < w2.heap.size) := Lib.hid (by have := hp2.lt; omega)
  have HLT : Hid (w.heap.size < w2.heap.size) := Lib.hid (by have := hp2.lt; omega)
  have HLT : Hid (w.heap.size < w2.heap.size) := Lib.hid (by have := hp2.lt; omega)
  have A2 := Lib.hid (all_any hp2 hr2 hs2 hB2 hrb (by omega) (by omega) hl ha)
  clear hp2 hr2 hs2 hB2 ha
  go_wp2_with fail
  refine A2.out.mono ?_
  rintro e w3 ⟨rfl, hB3, hst⟩
  obtain ⟨n, f, cv, mv, s⟩ := hst rfl
  have hh3 := H0.out.2.below hB3 (by omega)
  obtain ⟨ca, cc, rfl⟩ := s.c.slice
  obtain ⟨ma, mc, rfl⟩ := owns_slice s.m
  obtain ⟨cs, hcs⟩ : ∃ cs, headA (imgH h2) (.slice ca h2.comps.length cc) h2.p (.slice ma h2.com.length mc) = cs := ⟨_, rfl⟩
  have hlen : cs.size = 18 := by rw [← hcs]; rfl
  have h1c : cs.all (·.oneCell') = true := by rw [← hcs]; simp [headA, Value.oneCell']
  obtain ⟨wd, hwd⟩ : ∃ wd, wd = w3.drew := ⟨_, rfl⟩
  have hra : wd.rangeAt (w1.heap.size + 1) 1 cs.toList := by
    intro j u hu
    rw [← hcs] at hu
    rw [hwd]
    refine (s.p.drew.cell (1 + j)).trans ?_
    have e : (prsA rb w1.heap.size h2 (.slice ca h2.comps.length cc) (.slice ma h2.com.length mc)).toList = .pointer (some ⟨rb, 0, none⟩) :: ((headA (imgH h2) (.slice ca h2.comps.length cc) h2.p (.slice ma h2.com.length mc)).toList ++ [.map (some w1.heap.size)]) := rfl
    rw [← Array.getElem?_toList, e, Nat.add_comm, List.getElem?_cons_succ, List.getElem?_append_left (List.getElem?_eq_some_iff.1 hu).1]
    exact hu
  have hhd : Blk wd w.heap.size 33 (headA ⟨0, 0, 0, 0, []⟩ nilV zP nilV) := by rw [hwd]; exact hh3.drew
  have hsd := s.drewSt
  rw [← hwd] at hsd
  have L := Lib.hid (left_any rb l2 0 wd hsd.r)
  rw [leftI_ok] at L
  have c0 : wd.cell? ⟨w1.heap.size + 1, 0, none⟩ = some (.pointer (some ⟨rb, 0, none⟩)) := hsd.p.cell 0
  have w51 : IntKind.i64.wrap ((l.length : Int) - l2.length) = (l.length : Int) - l2.length := by have := HL2.out; exact IntWalk.i64_in _ (by omega)
  have w52 : IntKind.i64.wrap ((l.length : Int) - l2.length - 2) = (l.length : Int) - l2.length - 2 := by have := HL2.out; exact IntWalk.i64_in _ (by omega)
  have HR := Lib.hid (And.intro hra (And.intro hhd (And.intro h1c hlen)))
  have HS := Lib.hid hsd
  have HU := Lib.hid Try.underlying33
  have HI33 : Hid ((Try.prog.info? 33).map (·.size) = some cs.toList.length) := Lib.hid (by rw [Array.length_toList, hlen]; kernel_rfl)
  have HB3 := Lib.hid hB3
  have HCS := Lib.hid hcs
  clear s hh3 hB3 hst A2 hmm hra hhd h1c hlen hsd hcs hl
  obtain ⟨pb, hpb⟩ : ∃ pb, w1.heap.size + 1 = pb := ⟨_, rfl⟩
  rw [hpb] at c0 HR HS
  go_upto_region 5 with fail
  try simp only [hpb]
  have HPB := Lib.hid hpb
  clear hpb
  refine wp_region_any (by kernel_rfl) ?_
  try (change wpAny _ _ _ _ _ _ _ (World.drew _))
  rw [← hwd]
  have HWD := Lib.hid hwd
  clear hwd
  refine wpAny_take (i := 0) (oi := ⟨some 18, _, _, _, _, _⟩) (v := (.pointer (some ⟨pb, 0, none⟩))) rfl (by kernel_rfl) (by kernel_rfl) (by kernel_rfl) (fun _ _ _ h => h) (Or.inl ⟨by rfl, ?_⟩) ?_
  · intro w
    go_simp
  try simp only [Act.put, List.setIfInBounds_toArray, List.set_cons_zero, List.set_cons_succ]
  refine wpAny_take (i := 1) (oi := ⟨some 19, _, _, _, _, _⟩) (v := (.pointer (some ⟨pb, 0, none⟩))) rfl (by kernel_rfl) (by kernel_rfl) (by kernel_rfl) (fun _ _ _ h => h) (Or.inl ⟨by rfl, ?_⟩) ?_
  · intro w
    go_simp
  try simp only [Act.put, List.setIfInBounds_toArray, List.set_cons_zero, List.set_cons_succ]
  refine wpAny_take (i := 2) (oi := ⟨some 20, _, _, _, _, _⟩) (v := (.pointer (some ⟨pb, 1, none⟩))) rfl (by kernel_rfl) (by kernel_rfl) (by kernel_rfl) (fun _ _ _ h => h) (Or.inl ⟨by rfl, ?_⟩) ?_
  · intro w
    go_simp
  try simp only [Act.put, List.setIfInBounds_toArray, List.set_cons_zero, List.set_cons_succ]
  refine wpAny_take (i := 4) (oi := ⟨some 22, _, _, _, _, _⟩) (v := (.slice va l.length vc)) rfl (by kernel_rfl) (by kernel_rfl) (by kernel_rfl) (fun _ _ _ h => h) (Or.inl ⟨by rfl, ?_⟩) ?_
  · intro w
    go_simp
  try simp only [Act.put, List.setIfInBounds_toArray, List.set_cons_zero, List.set_cons_succ]
  refine wpAny_take (i := 5) (oi := ⟨some 23, _, _, _, _, _⟩) (v := (.int .i64 (l.length : Int))) rfl (by kernel_rfl) (by kernel_rfl) (by kernel_rfl) (fun _ _ _ h => h) (Or.inl ⟨by rfl, ?_⟩) ?_
  · intro w
    go_simp
  try simp only [Act.put, List.setIfInBounds_toArray, List.set_cons_zero, List.set_cons_succ]
  refine wpAny_take (i := 6) (oi := ⟨some 24, _, _, _, _, _⟩) (v := (.pointer (some ⟨pb, 0, none⟩))) rfl (by kernel_rfl) (by kernel_rfl) (by kernel_rfl) (fun _ _ _ h => h) (Or.inl ⟨by rfl, ?_⟩) ?_
  · intro w
    go_simp
  try simp only [Act.put, List.setIfInBounds_toArray, List.set_cons_zero, List.set_cons_succ]
  refine wpAny_take (i := 7) (oi := ⟨some 25, _, _, _, _, _⟩) (v := (.pointer (some ⟨pb, 0, none⟩))) rfl (by kernel_rfl) (by kernel_rfl) (by kernel_rfl) (fun _ _ _ h => h) (Or.inl ⟨by rfl, ?_⟩) ?_
  · intro w
    go_simp
  try simp only [Act.put, List.setIfInBounds_toArray, List.set_cons_zero, List.set_cons_succ]
  refine wpAny_take (i := 8) (oi := ⟨some 26, _, _, _, _, _⟩) (v := (.pointer (some ⟨pb, 0, none⟩))) rfl (by kernel_rfl) (by kernel_rfl) (by kernel_rfl) (fun _ _ _ h => h) (Or.inl ⟨by rfl, ?_⟩) ?_
  · intro w
    go_simp
  try simp only [Act.put, List.setIfInBounds_toArray, List.set_cons_zero, List.set_cons_succ]
  refine wpAny_ready (rs := [3, 9]) (by kernel_rfl) (by simp) ?_
  refine AllReady.cons (o := ⟨some 21, .load 33 (.tmp 20), _, _, _, none⟩) rfl (fun K hK => ?_) ?_
  ·
    refine step_load_mid (P := Try.prog) rfl 33 (.tmp 20) rfl pb 1 cs.toList _ HU.out rfl HI33.out (by simp [Act.eval]) HR.out.1 ?_
    refine hK _ _ ?_
    clear hK K
    try simp only [Act.put, List.setIfInBounds_toArray, List.set_cons_zero, List.set_cons_succ]
    refine wpAny_ready (rs := [9]) (by kernel_rfl) (by simp) ?_
    refine AllReady.cons (o := ⟨some 27, _, _, _, _, none⟩) rfl (fun K hK => ?_) ?_
    ·
      go_simp
      refine hK _ _ ?_
      clear hK K
      try simp only [Act.put, List.setIfInBounds_toArray, List.set_cons_zero, List.set_cons_succ]
      refine wpAny_ready (rs := [10]) (by kernel_rfl) (by simp) ?_
      refine AllReady.cons (o := ⟨some 28, _, _, _, _, none⟩) rfl (fun K hK => ?_) ?_
      ·
        go_simp
        go_at_call 28
        refine L.out.mono ?_
        rintro e w4 ⟨rfl, rfl⟩
        go_simp
        refine hK _ _ ?_
        clear hK K
        try simp only [Act.put, List.setIfInBounds_toArray, List.set_cons_zero, List.set_cons_succ]
        refine wpAny_take (i := 11) (oi := ⟨some 29, _, _, _, _, _⟩) (v := (.int .i64 ((l.length : Int) - l2.length))) rfl (by kernel_rfl) (by kernel_rfl) (by kernel_rfl) (fun _ _ _ h => h) (Or.inl ⟨by rfl, ?_⟩) ?_
        · intro w
          go_simp
        try simp only [Act.put, List.setIfInBounds_toArray, List.set_cons_zero, List.set_cons_succ]
        refine wpAny_take (i := 12) (oi := ⟨some 30, _, _, _, _, _⟩) (v := (.int .i64 ((l.length : Int) - l2.length - 2))) rfl (by kernel_rfl) (by kernel_rfl) (by kernel_rfl) (fun _ _ _ h => h) (Or.inl ⟨by rfl, ?_⟩) ?_
        · intro w
          go_simp
        try simp only [Act.put, List.setIfInBounds_toArray, List.set_cons_zero, List.set_cons_succ]
        refine wpAny_ready (rs := [13]) (by kernel_rfl) (by simp) ?_
        refine AllReady.cons (o := ⟨none, .store 33 (.tmp 2) (.tmp 21), _, _, _, none⟩) rfl (fun K hK => ?_) ?_
        ·
          refine step_store_row rfl 33 (.tmp 2) (.tmp 21) rfl w.heap.size 33 cs (headA ⟨0, 0, 0, 0, []⟩ nilV zP nilV) (by rw [HR.out.2.2.2]; kernel_rfl) (by rw [HR.out.2.2.2]; rfl) HR.out.2.2.1 (by simp [Act.eval]) (by simp [Act.eval]) HR.out.2.1 ?_
          have HF : Hid (Blk (wd.setRow w.heap.size cs) w.heap.size 33 cs ∧ Below w.heap.size w (wd.setRow w.heap.size cs) ∧ CompsOwn (wd.setRow w.heap.size cs) w2.heap.size (.slice ca h2.comps.length cc) h2.comps ∧ OB (wd.setRow w.heap.size cs) (.slice ma h2.com.length mc) h2.com) := Lib.hid (parse_end HR.out.2.1 HS.out (H0.out.1.trans (HB3.out.mono H0.out.1.size)) HWD.out (by have := HLT.out; omega) cs)
          generalize wd.setRow w.heap.size cs = w5 at HF ⊢
          refine hK _ _ ?_
          clear hK K
          try simp only [Act.put]
          refine wpAny_take (i := 14) (oi := ⟨some 3, _, _, _, _, _⟩) (v := (.int .i64 ((l.length : Int) - l2.length - 2))) rfl (by kernel_rfl) (by kernel_rfl) (by kernel_rfl) (fun _ _ _ h => h) (Or.inl ⟨by rfl, ?_⟩) ?_
          · intro w
            go_simp
          try simp only [Act.put, List.setIfInBounds_toArray, List.set_cons_zero, List.set_cons_succ]
          refine wpAny_take (i := 15) (oi := ⟨some 4, _, _, _, _, _⟩) (v := (.int .i64 0)) rfl (by kernel_rfl) (by kernel_rfl) (by kernel_rfl) (fun _ _ _ h => h) (Or.inl ⟨by rfl, ?_⟩) ?_
          · intro w
            go_simp
          try simp only [Act.put, List.setIfInBounds_toArray, List.set_cons_zero, List.set_cons_succ]
          refine wpAny_done (by kernel_rfl) ?_ _
          have hB5 := HF.out.2.1
          have HR5 := HF.out.1
          have hc5 := CompsRd.of_owns HF.out.2.2.1
          have hm5 := HF.out.2.2.2.bv
          have HP := Lib.hid (And.intro hB5 (And.intro HR5 (And.intro hc5 hm5)))
          clear hB5 HR5 hc5 hm5
          go_wp2_with fail
          exact bodyPost_ret (v := .tuple #[.agg cs, .int .i64 ((l.length : Int) - l2.length - 2), .int .i64 0]) (results_row3 Try.results16 _ _ w.heap.size 33 _ (0, 0) _ rfl HP.out.2.1 Try.underlying33 rfl (by rw [HR.out.2.2.2]; kernel_rfl)) rfl ⟨_, _, by rw [← HCS.out], HP.out.2.2.1, HP.out.2.2.2, HP.out.1⟩
        exact AllReady.nil
      exact AllReady.nil
    exact AllReady.nil
  refine AllReady.cons (o := ⟨some 27, _, _, _, _, none⟩) rfl (fun K hK => ?_) ?_
  ·
    go_simp
    refine hK _ _ ?_
    clear hK K
    try simp only [Act.put, List.setIfInBounds_toArray, List.set_cons_zero, List.set_cons_succ]
    refine wpAny_ready (rs := [3, 10]) (by kernel_rfl) (by simp) ?_
    refine AllReady.cons (o := ⟨some 21, .load 33 (.tmp 20), _, _, _, none⟩) rfl (fun K hK => ?_) ?_
    ·
      refine step_load_mid (P := Try.prog) rfl 33 (.tmp 20) rfl pb 1 cs.toList _ HU.out rfl HI33.out (by simp [Act.eval]) HR.out.1 ?_
      refine hK _ _ ?_
      clear hK K
      try simp only [Act.put, List.setIfInBounds_toArray, List.set_cons_zero, List.set_cons_succ]
      refine wpAny_ready (rs := [10]) (by kernel_rfl) (by simp) ?_
      refine AllReady.cons (o := ⟨some 28, _, _, _, _, none⟩) rfl (fun K hK => ?_) ?_
      ·
        go_simp
        go_at_call 28
        refine L.out.mono ?_
        rintro e w4 ⟨rfl, rfl⟩
        go_simp
        refine hK _ _ ?_
        clear hK K
        try simp only [Act.put, List.setIfInBounds_toArray, List.set_cons_zero, List.set_cons_succ]
        refine wpAny_take (i := 11) (oi := ⟨some 29, _, _, _, _, _⟩) (v := (.int .i64 ((l.length : Int) - l2.length))) rfl (by kernel_rfl) (by kernel_rfl) (by kernel_rfl) (fun _ _ _ h => h) (Or.inl ⟨by rfl, ?_⟩) ?_
        · intro w
          go_simp
        try simp only [Act.put, List.setIfInBounds_toArray, List.set_cons_zero, List.set_cons_succ]
        refine wpAny_take (i := 12) (oi := ⟨some 30, _, _, _, _, _⟩) (v := (.int .i64 ((l.length : Int) - l2.length - 2))) rfl (by kernel_rfl) (by kernel_rfl) (by kernel_rfl) (fun _ _ _ h => h) (Or.inl ⟨by rfl, ?_⟩) ?_
        · intro w
          go_simp
        try simp only [Act.put, List.setIfInBounds_toArray, List.set_cons_zero, List.set_cons_succ]
        refine wpAny_ready (rs := [13]) (by kernel_rfl) (by simp) ?_
        refine AllReady.cons (o := ⟨none, .store 33 (.tmp 2) (.tmp 21), _, _, _, none⟩) rfl (fun K hK => ?_) ?_
        ·
          refine step_store_row rfl 33 (.tmp 2) (.tmp 21) rfl w.heap.size 33 cs (headA ⟨0, 0, 0, 0, []⟩ nilV zP nilV) (by rw [HR.out.2.2.2]; kernel_rfl) (by rw [HR.out.2.2.2]; rfl) HR.out.2.2.1 (by simp [Act.eval]) (by simp [Act.eval]) HR.out.2.1 ?_
          have HF : Hid (Blk (wd.setRow w.heap.size cs) w.heap.size 33 cs ∧ Below w.heap.size w (wd.setRow w.heap.size cs) ∧ CompsOwn (wd.setRow w.heap.size cs) w2.heap.size (.slice ca h2.comps.length cc) h2.comps ∧ OB (wd.setRow w.heap.size cs) (.slice ma h2.com.length mc) h2.com) := Lib.hid (parse_end HR.out.2.1 HS.out (H0.out.1.trans (HB3.out.mono H0.out.1.size)) HWD.out (by have := HLT.out; omega) cs)
          generalize wd.setRow w.heap.size cs = w5 at HF ⊢
          refine hK _ _ ?_
          clear hK K
          try simp only [Act.put]
          refine wpAny_take (i := 14) (oi := ⟨some 3, _, _, _, _, _⟩) (v := (.int .i64 ((l.length : Int) - l2.length - 2))) rfl (by kernel_rfl) (by kernel_rfl) (by kernel_rfl) (fun _ _ _ h => h) (Or.inl ⟨by rfl, ?_⟩) ?_
          · intro w
            go_simp
          try simp only [Act.put, List.setIfInBounds_toArray, List.set_cons_zero, List.set_cons_succ]
          refine wpAny_take (i := 15) (oi := ⟨some 4, _, _, _, _, _⟩) (v := (.int .i64 0)) rfl (by kernel_rfl) (by kernel_rfl) (by kernel_rfl) (fun _ _ _ h => h) (Or.inl ⟨by rfl, ?_⟩) ?_
          · intro w
            go_simp
          try simp only [Act.put, List.setIfInBounds_toArray, List.set_cons_zero, List.set_cons_succ]
          refine wpAny_done (by kernel_rfl) ?_ _
          have hB5 := HF.out.2.1
          have HR5 := HF.out.1
          have hc5 := CompsRd.of_owns HF.out.2.2.1
          have hm5 := HF.out.2.2.2.bv
          have HP := Lib.hid (And.intro hB5 (And.intro HR5 (And.intro hc5 hm5)))
          clear hB5 HR5 hc5 hm5
          go_wp2_with fail
          exact bodyPost_ret (v := .tuple #[.agg cs, .int .i64 ((l.length : Int) - l2.length - 2), .int .i64 0]) (results_row3 Try.results16 _ _ w.heap.size 33 _ (0, 0) _ rfl HP.out.2.1 Try.underlying33 rfl (by rw [HR.out.2.2.2]; kernel_rfl)) rfl ⟨_, _, by rw [← HCS.out], HP.out.2.2.1, HP.out.2.2.2, HP.out.1⟩
        exact AllReady.nil
      exact AllReady.nil
    refine AllReady.cons (o := ⟨some 28, _, _, _, _, none⟩) rfl (fun K hK => ?_) ?_
    ·
      go_simp
      go_at_call 28
      refine L.out.mono ?_
      rintro e w4 ⟨rfl, rfl⟩
      go_simp
      refine hK _ _ ?_
      clear hK K
      try simp only [Act.put, List.setIfInBounds_toArray, List.set_cons_zero, List.set_cons_succ]
      refine wpAny_take (i := 11) (oi := ⟨some 29, _, _, _, _, _⟩) (v := (.int .i64 ((l.length : Int) - l2.length))) rfl (by kernel_rfl) (by kernel_rfl) (by kernel_rfl) (fun _ _ _ h => h) (Or.inl ⟨by rfl, ?_⟩) ?_
      · intro w
        go_simp
      try simp only [Act.put, List.setIfInBounds_toArray, List.set_cons_zero, List.set_cons_succ]
      refine wpAny_take (i := 12) (oi := ⟨some 30, _, _, _, _, _⟩) (v := (.int .i64 ((l.length : Int) - l2.length - 2))) rfl (by kernel_rfl) (by kernel_rfl) (by kernel_rfl) (fun _ _ _ h => h) (Or.inl ⟨by rfl, ?_⟩) ?_
      · intro w
        go_simp
      try simp only [Act.put, List.setIfInBounds_toArray, List.set_cons_zero, List.set_cons_succ]
      refine wpAny_ready (rs := [3]) (by kernel_rfl) (by simp) ?_
      refine AllReady.cons (o := ⟨some 21, .load 33 (.tmp 20), _, _, _, none⟩) rfl (fun K hK => ?_) ?_
      ·
        refine step_load_mid (P := Try.prog) rfl 33 (.tmp 20) rfl pb 1 cs.toList _ HU.out rfl HI33.out (by simp [Act.eval]) HR.out.1 ?_
        refine hK _ _ ?_
        clear hK K
        try simp only [Act.put, List.setIfInBounds_toArray, List.set_cons_zero, List.set_cons_succ]
        refine wpAny_ready (rs := [13]) (by kernel_rfl) (by simp) ?_
        refine AllReady.cons (o := ⟨none, .store 33 (.tmp 2) (.tmp 21), _, _, _, none⟩) rfl (fun K hK => ?_) ?_
        ·
          refine step_store_row rfl 33 (.tmp 2) (.tmp 21) rfl w.heap.size 33 cs (headA ⟨0, 0, 0, 0, []⟩ nilV zP nilV) (by rw [HR.out.2.2.2]; kernel_rfl) (by rw [HR.out.2.2.2]; rfl) HR.out.2.2.1 (by simp [Act.eval]) (by simp [Act.eval]) HR.out.2.1 ?_
          have HF : Hid (Blk (wd.setRow w.heap.size cs) w.heap.size 33 cs ∧ Below w.heap.size w (wd.setRow w.heap.size cs) ∧ CompsOwn (wd.setRow w.heap.size cs) w2.heap.size (.slice ca h2.comps.length cc) h2.comps ∧ OB (wd.setRow w.heap.size cs) (.slice ma h2.com.length mc) h2.com) := Lib.hid (parse_end HR.out.2.1 HS.out (H0.out.1.trans (HB3.out.mono H0.out.1.size)) HWD.out (by have := HLT.out; omega) cs)
          generalize wd.setRow w.heap.size cs = w5 at HF ⊢
          refine hK _ _ ?_
          clear hK K
          try simp only [Act.put]
          refine wpAny_take (i := 14) (oi := ⟨some 3, _, _, _, _, _⟩) (v := (.int .i64 ((l.length : Int) - l2.length - 2))) rfl (by kernel_rfl) (by kernel_rfl) (by kernel_rfl) (fun _ _ _ h => h) (Or.inl ⟨by rfl, ?_⟩) ?_
          · intro w
            go_simp
          try simp only [Act.put, List.setIfInBounds_toArray, List.set_cons_zero, List.set_cons_succ]
          refine wpAny_take (i := 15) (oi := ⟨some 4, _, _, _, _, _⟩) (v := (.int .i64 0)) rfl (by kernel_rfl) (by kernel_rfl) (by kernel_rfl) (fun _ _ _ h => h) (Or.inl ⟨by rfl, ?_⟩) ?_
          · intro w
            go_simp
          try simp only [Act.put, List.setIfInBounds_toArray, List.set_cons_zero, List.set_cons_succ]
          refine wpAny_done (by kernel_rfl) ?_ _
          have hB5 := HF.out.2.1
          have HR5 := HF.out.1
          have hc5 := CompsRd.of_owns HF.out.2.2.1
          have hm5 := HF.out.2.2.2.bv
          have HP := Lib.hid (And.intro hB5 (And.intro HR5 (And.intro hc5 hm5)))
          clear hB5 HR5 hc5 hm5
          go_wp2_with fail
          exact bodyPost_ret (v := .tuple #[.agg cs, .int .i64 ((l.length : Int) - l2.length - 2), .int .i64 0]) (results_row3 Try.results16 _ _ w.heap.size 33 _ (0, 0) _ rfl HP.out.2.1 Try.underlying33 rfl (by rw [HR.out.2.2.2]; kernel_rfl)) rfl ⟨_, _, by rw [← HCS.out], HP.out.2.2.1, HP.out.2.2.2, HP.out.1⟩
        exact AllReady.nil
      exact AllReady.nil
    exact AllReady.nil
  exact AllReady.nil
end Go.Proofs.Ytlhlhlabnjfhcaa
namespace Go.Proofs.Ytlhlhlabnjfhcaa
open Go.RowKit Go.Maps

def bareM (m : ImgD) : ImgD := { m with cs := m.cs.map CompD.bare }
theorem compB_bare (c : CompD) : compB c.bare = compB c := rfl
theorem all_bare (cs : List CompD) : (cs.map CompD.bare).all compB = cs.all compB := by
  rw [List.all_map]
  rfl
theorem picE_bare (m : ImgD) : picE (bareM m) = picE m := by
  unfold picE bareM
  simp only [List.length_map, all_bare]
theorem alikeB_bare (cs : List CompD) : alikeB (cs.map CompD.bare) = alikeB cs := by
  match cs with
  | [] => rfl
  | [_] => rfl
  | [_, _] => rfl
  | _ :: _ :: _ :: _ => rfl
theorem frameE_bare (m : ImgD) (p : ParD) : frameE (bareM m) p = frameE m p := by
  unfold frameE
  rw [picE_bare, show alikeB (bareM m).cs = alikeB m.cs from alikeB_bare m.cs]
  rfl
theorem mostI_bare (cs : List CompD) : mostI (cs.map CompD.bare) = mostI cs := by
  unfold mostI
  rw [List.foldl_map]
  rfl
theorem qcdM_bare (m : ImgD) (p : ParD) : qcdM (bareM m) p = qcdM m p := by
  unfold qcdM
  rw [show mostI (bareM m).cs = mostI m.cs from mostI_bare m.cs]

/-- params that COD's bytes can say -/
def CodFit (p : ParD) : Prop :=
  (0 ≤ p.lv ∧ p.lv < 256) ∧ (2 ≤ p.cbw ∧ p.cbw < 258) ∧ (2 ≤ p.cbh ∧ p.cbh < 258) ∧ (1 ≤ p.prec ∧ p.prec ≤ 15) ∧ (0 ≤ p.style ∧ p.style ≤ 63) ∧ (0 ≤ p.order ∧ p.order < 256) ∧ 1 ≤ p.layers ∧ p.layers ≤ 8
theorem ParOk.fit {p : ParD} (h : ParOk p) : CodFit p := by
  unfold ParOk at h
  unfold CodFit
  omega
def codOf (p : ParD) : CodD := { mks := 1 + (if p.sop then 2 else 0) + (if p.eph then 4 else 0), order := p.order.toNat, layers := p.layers.toNat, turn := if p.rct then 1 else 0, lv := p.lv.toNat, cbw := (p.cbw - 2).toNat, cbh := (p.cbh - 2).toNat, style := p.style.toNat, prec := p.prec.toNat }
theorem codOf_ok {p : ParD} (h : CodFit p) : (codOf p).ok := by
  obtain ⟨h1, h2, h3, h4, h5, h6, h7⟩ := h
  unfold CodD.ok codOf
  cases p.sop <;> cases p.eph <;> cases p.rct <;> simp <;> omega
theorem codP_codOf {p : ParD} (h : CodFit p) (q : ParD) : codP (codOf p) q = { p with tx := q.tx, ty := q.ty } := by
  obtain ⟨h1, h2, h3, h4, h5, h6, h7⟩ := h
  obtain ⟨tx, ty, lv, cbw, cbh, prec, style, order, layers, rct, sop, eph⟩ := p
  simp only at h1 h2 h3 h4 h5 h6 h7
  have e1 : ((lv.toNat : Nat) : Int) = lv := by omega
  have e2 : (((cbw - 2).toNat : Nat) : Int) + 2 = cbw := by omega
  have e3 : (((cbh - 2).toNat : Nat) : Int) + 2 = cbh := by omega
  have e4 : ((prec.toNat : Nat) : Int) = prec := by omega
  have e5 : ((style.toNat : Nat) : Int) = style := by omega
  have e6 : ((order.toNat : Nat) : Int) = order := by omega
  have e7 : ((layers.toNat : Nat) : Int) = layers := by omega
  unfold codP codOf
  simp only [e1, e2, e3, e4, e5, e6, e7]
  cases sop <;> cases eph <;> cases rct <;> simp
theorem putB_1 (n : Int) (h : 0 ≤ n ∧ n < 256) : putB 1 n = [UInt8.ofNat n.toNat] := by
  have e : (n % 18446744073709551616).toNat = n.toNat := by omega
  simp [putB, putTo, List.range_succ, e]
theorem codM_codB {p : ParD} (h : CodFit p) : codM p = codB (codOf p) 1 := by
  obtain ⟨h1, h2, h3, h4, h5, h6, h7⟩ := h
  obtain ⟨tx, ty, lv, cbw, cbh, prec, style, order, layers, rct, sop, eph⟩ := p
  simp only at h1 h2 h3 h4 h5 h6 h7
  have e4 : (17 * prec).toNat = 17 * prec.toNat := by omega
  have e7 : ((layers.toNat : Nat) : Int) = layers := by omega
  have e8 : (lv + 1).toNat = lv.toNat + 1 := by omega
  have b1 : ∀ (b : Bool) (k : Int), 0 ≤ k → k ≤ 4 → 0 ≤ flagI b k ∧ flagI b k ≤ k := fun b k hk _ => flagI_bd b k hk
  have s := b1 sop 2 (by omega) (by omega)
  have t := b1 eph 4 (by omega) (by omega)
  have r := b1 rct 1 (by omega) (by omega)
  have e9 : (1 + flagI sop 2 + flagI eph 4).toNat = 1 + (if sop then 2 else 0) + (if eph then 4 else 0) := by cases sop <;> cases eph <;> rfl
  have e10 : (flagI rct 1).toNat = if rct then 1 else 0 := by cases rct <;> rfl
  unfold codM codB codOf putsB
  simp only [List.flatMap_cons, List.flatMap_nil, List.append_nil]
  rw [putB_1 _ (by omega), putB_1 _ h6, putB_1 _ (by omega), putB_1 _ h1, putB_1 _ (by omega), putB_1 _ (by omega), putB_1 _ (by omega), putB_1 1 (by omega), putB_1 _ (by omega), e4, e7, e8, e9, e10]
  simp [List.flatten_replicate_singleton]

theorem getI_put2' (n : Int) (h : 0 ≤ n ∧ n < 65536) : getI (putB 2 n) = n := by
  obtain ⟨k, rfl⟩ := Int.eq_ofNat_of_zero_le h.1
  exact getI_put2 k (by omega)
/-- a segment, and what lies behind it -/
theorem seg_front (mk : Int) (hm : 0 ≤ mk ∧ mk < 65536) (b rest : List UInt8) (hb : b.length < 65534) : 2 ≤ (segB mk b ++ rest).length ∧ getI ((segB mk b ++ rest).take 2) = mk ∧ bodyF ((segB mk b ++ rest).drop 2) = some (b, rest) := by
  have e : segB mk b ++ rest = putB 2 mk ++ (putB 2 (b.length + 2) ++ (b ++ rest)) := by simp [segB, putsB]
  rw [e]
  refine ⟨by simp [putB_length], by rw [take_app _ _ 2 (putB_length _ _)]; exact getI_put2' mk hm, ?_⟩
  rw [drop_app _ _ 2 (putB_length _ _)]
  have hl : getI (putB 2 ((b.length : Int) + 2)) = (b.length : Int) + 2 := getI_put2' _ (by omega)
  unfold bodyF
  rw [take_app _ _ 2 (putB_length _ _), hl, drop_app _ _ 2 (putB_length _ _)]
  have e2 : ((b.length : Int) + 2 - 2).toNat = b.length := by omega
  rw [e2, take_app b rest b.length rfl, drop_app b rest b.length rfl]
  refine if_neg ?_
  simp [putB_length]
  omega
/-- a segment that is cut -/
theorem seg_cut (mk : Int) (hm : 0 ≤ mk ∧ mk < 65536) (b : List UInt8) (hb : b.length < 65534) (k : Nat) (h2 : 2 ≤ k) (hk : k < (segB mk b).length) : 2 ≤ ((segB mk b).take k).length ∧ getI (((segB mk b).take k).take 2) = mk ∧ bodyF (((segB mk b).take k).drop 2) = none := by
  have e : segB mk b = putB 2 mk ++ (putB 2 (b.length + 2) ++ b) := by simp [segB, putsB]
  have hl : getI (putB 2 ((b.length : Int) + 2)) = (b.length : Int) + 2 := getI_put2' _ (by omega)
  rw [segB_length] at hk
  obtain ⟨j, rfl⟩ : ∃ j, k = 2 + j := ⟨k - 2, by omega⟩
  have e2 : (segB mk b).take (2 + j) = putB 2 mk ++ (putB 2 (b.length + 2) ++ b).take j := by
    rw [e, List.take_append, putB_length, List.take_of_length_le (by rw [putB_length]; omega)]
    congr 2
    omega
  rw [e2]
  refine ⟨by simp [putB_length], by rw [take_app _ _ 2 (putB_length _ _)]; exact getI_put2' mk hm, ?_⟩
  rw [drop_app _ _ 2 (putB_length _ _)]
  unfold bodyF
  refine if_pos ?_
  by_cases hj : j < 2
  · left
    rw [List.length_take]
    omega
  · obtain ⟨i, rfl⟩ : ∃ i, j = 2 + i := ⟨j - 2, by omega⟩
    have e3 : (putB 2 ((b.length : Int) + 2) ++ b).take (2 + i) = putB 2 (b.length + 2) ++ b.take i := by
      rw [List.take_append, putB_length, List.take_of_length_le (by rw [putB_length]; omega)]
      congr 2
      omega
    rw [e3, take_app _ _ 2 (putB_length _ _), hl]
    right; right
    rw [List.length_append, putB_length, List.length_take]
    omega

section
variable {f : Int → Option (List UInt8)} {h h2 : HeadM} {e : Int} {l2 rest : List UInt8}
theorem Run.cod_ {p : ParD} (hf : f 65362 = none) (hp : CodFit p) (r : Run (setF f 65362 (codM p)) { h with p := { p with tx := h.p.tx, ty := h.p.ty } } rest e h2 l2) : Run f h (segB 65362 (codM p) ++ rest) e h2 l2 := by
  have hl : (codM p).length < 65534 := by rw [codM_length p hp.1.1]; have := hp.1; omega
  obtain ⟨h1, h3, h4⟩ := seg_front 65362 (by decide) (codM p) rest hl
  rw [codM_codB hp] at h4 r
  rw [← codP_codOf hp] at r
  refine .ok h1 (by rw [h3]; decide) (OneOk.cod (codOf p) rest h3 (by rw [h3]; exact hf) (by rw [codM_codB hp]; exact h4) (codOf_ok hp)) ?_
  rw [h3]
  exact r
theorem qcd0 (m : ImgD) (p : ParD) : (qcdM m p)[0]? = some 96 := by
  have e : putsB 1 [96, 8 * (flagI p.rct 1 + mostI m.cs)] = 96 :: putB 1 (8 * (flagI p.rct 1 + mostI m.cs)) := by
    simp only [putsB, List.flatMap_cons, List.flatMap_nil, List.append_nil]
    rw [putB_1 96 (by decide)]
    rfl
  unfold qcdM
  rw [e]
  rfl
theorem Run.qcd_ {b : List UInt8} {c : UInt8} (hf : f 65372 = none) (hb : b.length < 65534) (h0 : b[0]? = some c) (hc : (bits .and .u8 (c.toNat : Int) 31 != 0) = false) (r : Run (setF f 65372 b) h rest e h2 l2) : Run f h (segB 65372 b ++ rest) e h2 l2 := by
  obtain ⟨h1, h3, h4⟩ := seg_front 65372 (by decide) b rest hb
  refine .ok h1 (by rw [h3]; decide) (OneOk.qcd b rest c h3 (by rw [h3]; exact hf) h4 h0 hc) ?_
  rw [h3]
  exact r
theorem Run.com_ {b : List UInt8} (hb : b.length < 65534) (hb2 : 2 ≤ b.length) (r : Run (setF f 65380 b) { h with com := b.drop 2 } rest e h2 l2) : Run f h (segB 65380 b ++ rest) e h2 l2 := by
  obtain ⟨h1, h3, h4⟩ := seg_front 65380 (by decide) b rest hb
  refine .ok h1 (by rw [h3]; decide) (OneOk.com b rest h3 h4 hb2) ?_
  rw [h3]
  exact r
theorem Run.end_ : Run f h ([255, 144] ++ rest) (endE f h) h rest := by
  have h1 : getI (([255, 144] ++ rest : List UInt8).take 2) = 65424 := by
    show getI [255, 144] = 65424
    exact getI_small _ 65424 rfl (by decide)
  have r := Run.sot (f := f) (h := h) (l := [255, 144] ++ rest) (by simp) h1
  exact r
theorem Run.twice_ {mk : Int} {b : List UInt8} (hm : mk = 65362 ∨ mk = 65372) (hb : b.length < 65534) (hf : f mk ≠ none) : Run f h (segB mk b ++ rest) 10 h (segB mk b ++ rest) := by
  obtain ⟨h1, h3, h4⟩ := seg_front mk (by omega) b rest hb
  exact .bad h1 (by rw [h3]; omega) (by rw [h3]; exact OneBad.twice hm hf)
theorem Run.cut_ {mk : Int} {b : List UInt8} {k : Nat} (hm : 0 ≤ mk ∧ mk < 65536) (hs : mk ≠ 65424) (ho : otherE mk = 0) (hl : otherL mk = true) (hb : b.length < 65534) (hf : ¬((mk = 65362 ∨ mk = 65372) ∧ f mk ≠ none)) (hk : k < (segB mk b).length) : Run f h ((segB mk b).take k) 10 h ((segB mk b).take k) := by
  by_cases h2 : 2 ≤ k
  · obtain ⟨h1, h3, h4⟩ := seg_cut mk hm b hb k h2 hk
    exact .bad h1 (by rw [h3]; exact hs) (by rw [h3]; exact OneBad.body ho hl hf h4)
  · exact .short (by rw [List.length_take]; omega)
end

theorem rV_short {k : Nat} {l : List UInt8} (h : l.length < k) : rV k l 0 = 0 := by
  unfold rV
  rw [if_neg]
  unfold rOk
  omega
/-- SOC and SIZ ahead of segments -/
theorem All.head_ {m : ImgD} {p : ParD} {rest l2 : List UInt8} {e : Int} {h2 : HeadM} (hs : SizOk m p) (hn : m.cs.length < 20000) (r : Run (fun _ => none) (sizH m p zH) rest e h2 l2) : All (putsB 2 [65359] ++ (segB 65361 (sizB m p) ++ rest)) e h2 l2 := by
  have hb : (sizB m p).length < 65534 := by rw [sizB_length]; omega
  obtain ⟨h1, h3, h4⟩ := seg_front 65361 (by decide) (sizB m p) rest hb
  have e0 : putsB 2 [65359] = putB 2 65359 := by simp [putsB]
  rw [e0]
  have d := drop_app (putB 2 65359) (segB 65361 (sizB m p) ++ rest) 2 (putB_length _ _)
  refine All.run (by rw [List.length_append, putB_length]; omega) ?_ (by rw [d]; exact h3) (by rw [d]; exact h4) hs r
  rw [take_app _ _ 2 (putB_length _ _)]
  exact getI_put2' _ (by decide)
/-- a front of these -/
theorem All.front_ {m : ImgD} {p : ParD} {rest : List UInt8} (hs : SizOk m p) (hn : m.cs.length < 20000) (hr : ∀ k, k < rest.length → ∃ h2 l2, Run (fun _ => none) (sizH m p zH) (rest.take k) 10 h2 l2) (k : Nat) (hk : k < (putsB 2 [65359] ++ (segB 65361 (sizB m p) ++ rest)).length) :
    ∃ h2 l2, All ((putsB 2 [65359] ++ (segB 65361 (sizB m p) ++ rest)).take k) 10 h2 l2 := by
  have hb : (sizB m p).length < 65534 := by rw [sizB_length]; omega
  have e0 : putsB 2 [65359] = putB 2 65359 := by simp [putsB]
  rw [e0] at hk ⊢
  have g0 : getI (putB 2 65359) = 65359 := getI_put2' _ (by decide)
  by_cases h2 : k < 2
  · refine ⟨_, _, All.soc ?_⟩
    rw [rV_short (by rw [List.length_take]; omega)]
    omega
  obtain ⟨j, rfl⟩ : ∃ j, k = 2 + j := ⟨k - 2, by omega⟩
  have e2 : (putB 2 65359 ++ (segB 65361 (sizB m p) ++ rest)).take (2 + j) = putB 2 65359 ++ (segB 65361 (sizB m p) ++ rest).take j := by
    rw [List.take_append, putB_length, List.take_of_length_le (by rw [putB_length]; omega), show 2 + j - 2 = j by omega]
  rw [e2]
  have d := drop_app (putB 2 65359) ((segB 65361 (sizB m p) ++ rest).take j) 2 (putB_length _ _)
  have t := take_app (putB 2 65359) ((segB 65361 (sizB m p) ++ rest).take j) 2 (putB_length _ _)
  rw [List.length_append, putB_length, List.length_append] at hk
  by_cases hj : j < 2
  · refine ⟨_, _, All.siz (by rw [List.length_append, putB_length]; omega) (by rw [t]; exact g0) ?_⟩
    rw [d]
    rw [rV_short (by rw [List.length_take]; omega)]
    omega
  by_cases hc : j < (segB 65361 (sizB m p)).length
  · have hq : (segB 65361 (sizB m p) ++ rest).take j = (segB 65361 (sizB m p)).take j := List.take_append_of_le_length (by omega)
    rw [hq] at d t ⊢
    obtain ⟨h1, h3, h4⟩ := seg_cut 65361 (by decide) (sizB m p) hb j (by omega) hc
    exact ⟨_, _, All.body (by rw [List.length_append, putB_length]; omega) (by rw [t]; exact g0) (by rw [d]; exact h3) (by rw [d]; exact h4)⟩
  · obtain ⟨i, rfl⟩ : ∃ i, j = (segB 65361 (sizB m p)).length + i := ⟨j - (segB 65361 (sizB m p)).length, by omega⟩
    obtain ⟨h2, l2, r⟩ := hr i (by omega)
    refine ⟨h2, l2, ?_⟩
    rw [List.take_length_add_append, ← e0]
    exact All.head_ hs hn r
end Go.Proofs.Ytlhlhlabnjfhcaa
namespace Go.Proofs.Ytlhlhlabnjfhcaa
open Go.RowKit Go.Maps

def headOf (m : ImgD) (p : ParD) (cl : List UInt8) : HeadM := ⟨m.x, m.y, m.ox, m.oy, m.cs.map CompD.bare, p, cl⟩
theorem imgH_headOf (m : ImgD) (p : ParD) (cl : List UInt8) : imgH (headOf m p cl) = bareM m := rfl
theorem sizOk_of {f : FormD} {m : ImgD} {p : ParD} (h : MadeOk f 8 m p) : SizOk m p := by
  obtain ⟨ox0, ox1, oy0, oy1, x0, x1, y0, y1, n1, n4, par, tx0, tx1, ty0, ty1, few, ⟨dp, -, -, hall⟩, rct⟩ := h
  refine ⟨by omega, by omega, by omega, by omega, by omega, by omega, by omega, fun c hc => ?_⟩
  obtain ⟨k1, k2, k3, k4, k5, k6, -⟩ := hall c hc
  omega

theorem depth_ok {f : FormD} {m : ImgD} {p : ParD} (h : MadeOk f 8 m p) : ∀ c ∈ m.cs, 1 ≤ c.depth ∧ c.depth ≤ 16 := by
  obtain ⟨depth, -, -, hall⟩ := h.comps
  intro c hc
  have := hall c hc
  unfold FmOk at this
  omega

theorem endE_head {f : Int → Option (List UInt8)} {m : ImgD} {p : ParD} {b : List UInt8} {h : HeadM} (h1 : f 65362 = some b) (h2 : f 65372 = some (qcdM m p)) (hi : imgH h = bareM m) (hp : h.p = p) : endE f h = frameE m p := by
  unfold endE
  rw [h1, h2]
  have e : (⟨h.x, h.y, h.ox, h.oy, h.comps⟩ : ImgD) = bareM m := hi
  simp only [e, hp, frameE_bare, qcdM_bare, if_true]
  split
  · rfl
  · rename_i h
    simp only [ne_eq, Classical.not_not] at h
    exact h.symm

theorem com_drop (cl : List UInt8) : (putsB 2 [1] ++ cl).drop 2 = cl := drop_app _ _ 2 (by rw [putsB_length]; rfl)
theorem com_len (cl : List UInt8) : (putsB 2 [1] ++ cl).length = 2 + cl.length := by rw [List.length_append, putsB_length]; rfl

/-- the remark and what ends the head -/
theorem run_com {f : Int → Option (List UInt8)} {h : HeadM} {m : ImgD} {p : ParD} {b : List UInt8} (cl more : List UInt8) (hl : cl.length ≤ 1000) (h1 : f 65362 = some b) (h2 : f 65372 = some (qcdM m p)) (hi : imgH h = bareM m) (hp : h.p = p) (hc : h.com = []) :
    Run f h (comB cl ++ ([255, 144] ++ more)) (frameE m p) { h with com := cl } more := by
  unfold comB
  by_cases hcl : cl = []
  · rw [if_pos hcl, List.nil_append]
    have r := Run.end_ (f := f) (h := h) (rest := more)
    rw [endE_head h1 h2 hi hp] at r
    have e : ({ h with com := cl } : HeadM) = h := by rw [hcl, ← hc]
    rw [e]
    exact r
  · rw [if_neg hcl]
    have e : ({ h with com := cl } : HeadM) = { h with com := (putsB 2 [1] ++ cl).drop 2 } := by rw [com_drop]
    rw [e]
    refine Run.com_ (by rw [com_len]; omega) (by rw [com_len]; omega) ?_
    have r := Run.end_ (f := setF f 65380 (putsB 2 [1] ++ cl)) (h := { h with com := (putsB 2 [1] ++ cl).drop 2 }) (rest := more)
    have ee : endE (setF f 65380 (putsB 2 [1] ++ cl)) { h with com := (putsB 2 [1] ++ cl).drop 2 } = frameE m p := endE_head (b := b) (by rw [setF_ne _ _ (by decide)]; exact h1) (by rw [setF_ne _ _ (by decide)]; exact h2) hi hp
    rw [ee] at r
    exact r

def segsM (m : ImgD) (p : ParD) (cl : List UInt8) : List UInt8 := segB 65362 (codM p) ++ (segB 65372 (qcdM m p) ++ comB cl)
theorem mainM_segs (m : ImgD) (p : ParD) (cl : List UInt8) : mainM m p cl = putsB 2 [65359] ++ (segB 65361 (sizB m p) ++ segsM m p cl) := by simp [mainM, segsM]
theorem qcd_len (m : ImgD) (p : ParD) (h : CodFit p) : (qcdM m p).length < 65534 := by rw [qcdM_length]; have := h.1; omega
theorem q96 : (bits .and .u8 ((96 : UInt8).toNat : Int) 31 != 0) = false := by decide

theorem run_head {m : ImgD} {p : ParD} (hc : CodFit p) (cl more : List UInt8) (hl : cl.length ≤ 1000) : Run (fun _ => none) (sizH m p zH) (segsM m p cl ++ ([255, 144] ++ more)) (frameE m p) (headOf m p cl) more := by
  unfold segsM
  rw [List.append_assoc]
  refine Run.cod_ rfl hc ?_
  rw [List.append_assoc]
  refine Run.qcd_ (by rw [setF_ne _ _ (by decide)]) (qcd_len m p hc) (qcd0 m p) q96 ?_
  exact run_com (h := { sizH m p zH with p := { p with tx := p.tx, ty := p.ty } }) (b := codM p) cl more hl (by rw [setF_ne _ _ (by decide), setF_same]) (by rw [setF_same]) rfl rfl rfl

theorem head_all {m : ImgD} {p : ParD} (hs : SizOk m p) (hn : m.cs.length < 20000) (hc : CodFit p) (cl more : List UInt8) (hl : cl.length ≤ 1000) : All (mainM m p cl ++ ([255, 144] ++ more)) (frameE m p) (headOf m p cl) more := by
  rw [mainM_segs, List.append_assoc, List.append_assoc]
  exact All.head_ hs hn (run_head hc cl more hl)

theorem take_le {a b : List UInt8} {k : Nat} (h : k ≤ a.length) : (a ++ b).take k = a.take k := List.take_append_of_le_length h
theorem take_add {a b : List UInt8} {k : Nat} : (a ++ b).take (a.length + k) = a ++ b.take k := List.take_length_add_append k
theorem run_front_end {f : Int → Option (List UInt8)} {h : HeadM} {k : Nat} (hk : k < ([255, 144] : List UInt8).length) : ∃ h2 l2, Run f h (([255, 144] : List UInt8).take k) 10 h2 l2 :=
  ⟨_, _, .short (by rw [List.length_take]; simp at hk ⊢; omega)⟩
theorem run_front_com {f : Int → Option (List UInt8)} {h : HeadM} (cl : List UInt8) (hl : cl.length ≤ 1000) {k : Nat} (hk : k < (comB cl ++ [255, 144]).length) : ∃ h2 l2, Run f h ((comB cl ++ [255, 144]).take k) 10 h2 l2 := by
  unfold comB at hk ⊢
  by_cases hcl : cl = []
  · rw [if_pos hcl, List.nil_append] at hk ⊢
    exact run_front_end hk
  · rw [if_neg hcl] at hk ⊢
    by_cases hk1 : k < (segB 65380 (putsB 2 [1] ++ cl)).length
    · rw [take_le (by omega)]
      exact ⟨_, _, Run.cut_ (by decide) (by decide) (by decide) (by decide) (by rw [com_len]; omega) (by omega) hk1⟩
    · obtain ⟨i, rfl⟩ : ∃ i, k = (segB 65380 (putsB 2 [1] ++ cl)).length + i := ⟨k - (segB 65380 (putsB 2 [1] ++ cl)).length, by omega⟩
      rw [take_add]
      obtain ⟨h2, l2, r⟩ := run_front_end (f := setF f 65380 (putsB 2 [1] ++ cl)) (h := { h with com := (putsB 2 [1] ++ cl).drop 2 }) (k := i) (by rw [List.length_append] at hk; omega)
      exact ⟨h2, l2, Run.com_ (by rw [com_len]; omega) (by rw [com_len]; omega) r⟩
theorem run_front {m : ImgD} {p : ParD} (hc : CodFit p) (cl : List UInt8) (hl : cl.length ≤ 1000) (k : Nat) (hk : k < (segsM m p cl ++ [255, 144]).length) : ∃ h2 l2, Run (fun _ => none) (sizH m p zH) ((segsM m p cl ++ [255, 144]).take k) 10 h2 l2 := by
  have hb : (codM p).length < 65534 := by rw [codM_length p hc.1.1]; have := hc.1; omega
  unfold segsM at hk ⊢
  rw [List.append_assoc] at hk ⊢
  by_cases hk1 : k < (segB 65362 (codM p)).length
  · rw [take_le (by omega)]
    exact ⟨_, _, Run.cut_ (by decide) (by decide) (by decide) (by decide) hb (fun h => h.2 rfl) hk1⟩
  obtain ⟨i, rfl⟩ : ∃ i, k = (segB 65362 (codM p)).length + i := ⟨k - (segB 65362 (codM p)).length, by omega⟩
  rw [List.length_append] at hk
  rw [take_add]
  suffices hh : ∃ h2 l2, Run (setF (fun _ => none) 65362 (codM p)) { sizH m p zH with p := { p with tx := (sizH m p zH).p.tx, ty := (sizH m p zH).p.ty } } ((segB 65372 (qcdM m p) ++ comB cl ++ [255, 144]).take i) 10 h2 l2 by
    obtain ⟨h2, l2, r⟩ := hh
    exact ⟨h2, l2, Run.cod_ rfl hc r⟩
  have hk2 : i < (segB 65372 (qcdM m p) ++ comB cl ++ [255, 144]).length := by omega
  rw [List.append_assoc] at hk2 ⊢
  by_cases hk1 : i < (segB 65372 (qcdM m p)).length
  · rw [take_le (by omega)]
    exact ⟨_, _, Run.cut_ (by decide) (by decide) (by decide) (by decide) (qcd_len m p hc) (fun h => h.2 (by rw [setF_ne _ _ (by decide)])) hk1⟩
  obtain ⟨j, rfl⟩ : ∃ j, i = (segB 65372 (qcdM m p)).length + j := ⟨i - (segB 65372 (qcdM m p)).length, by omega⟩
  rw [take_add]
  rw [List.length_append] at hk2
  obtain ⟨h2, l2, r⟩ := run_front_com (f := setF (setF (fun _ => none) 65362 (codM p)) 65372 (qcdM m p)) (h := { sizH m p zH with p := { p with tx := (sizH m p zH).p.tx, ty := (sizH m p zH).p.ty } }) cl hl (k := j) (by omega)
  exact ⟨h2, l2, Run.qcd_ (by rw [setF_ne _ _ (by decide)]) (qcd_len m p hc) (qcd0 m p) q96 r⟩
theorem head_front {m : ImgD} {p : ParD} (hs : SizOk m p) (hn : m.cs.length < 20000) (hc : CodFit p) (cl : List UInt8) (hl : cl.length ≤ 1000) (k : Nat) (hk : k < (mainM m p cl ++ [255, 144]).length) : ∃ h2 l2, All ((mainM m p cl ++ [255, 144]).take k) 10 h2 l2 := by
  rw [mainM_segs, List.append_assoc, List.append_assoc] at hk ⊢
  exact All.front_ hs hn (run_front hc cl hl) k hk
theorem main_small {f : FormD} {m : ImgD} {p : ParD} (h : MadeOk f 8 m p) (cl : List UInt8) (hl : cl.length ≤ 50) : (mainM m p cl).length + ([255, 144] : List UInt8).length ≤ 1000000 := by
  have hp := h.par
  have h4 := h.n4
  unfold ParOk at hp
  unfold mainM
  simp only [List.length_append, segB_length, sizB_length, codM_length p hp.1, qcdM_length, comB_length, putsB_length, List.length_cons, List.length_nil]
  split <;> omega
end Go.Proofs.Ytlhlhlabnjfhcaa
