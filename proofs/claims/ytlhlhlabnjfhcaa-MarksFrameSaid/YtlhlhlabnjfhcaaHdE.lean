/- Heads whose frame may not be: what canvas.Frame says of them, and Parse. -/
import Derived.Test.YtlhlhlabnjfhcaaHdC
namespace Go.Proofs.Ytlhlhlabnjfhcaa
open Go.RowKit Go.Maps

def dx5 : List CompD → List CompD
  | [] => []
  | c :: r => { c with dx := 5 } :: r
def five (cs : List CompD) : List CompD := cs ++ List.replicate (5 - cs.length) (cs.headD ⟨0, false, 0, 0, []⟩)
/-- the turns of MarksFrame -/
def turnM (k : Nat) (m : ImgD) : ImgD :=
  match k with
  | 0 => { m with x := 65 }
  | 1 => { m with ox := m.x }
  | 2 => { m with cs := dx5 m.cs }
  | 6 => { m with cs := five m.cs }
  | _ => m
def turnP (k : Nat) (m : ImgD) (p : ParD) : ParD :=
  match k with
  | 3 => { p with tx := m.ox }
  | 4 => { p with order := 5 }
  | 5 => { p with cbw := 7 }
  | _ => p
def wantE (k : Nat) : Int := if k = 0 then 14 else if k = 6 then 4 else 1

theorem pic_ok {f : FormD} {m : ImgD} {p : ParD} (h : MadeOk f 8 m p) : picE m = 0 := by
  by_cases hp : picE m = 0
  · exact hp
  · have hF := frame_ok h
    unfold frameE at hF
    rw [if_pos hp] at hF
    exact hF
theorem tiles_ok {f : FormD} {m : ImgD} {p : ParD} (h : MadeOk f 8 m p) : (inB p.tx (m.ox + 1) 65536 && inB p.ty (m.oy + 1) 65536) = true ∧ ¬16 < ceilI m.x p.tx * ceilI m.y p.ty := by
  obtain ⟨ox0, ox1, oy0, oy1, x0, x1, y0, y1, n1, n4, par, tx0, tx1, ty0, ty1, few, comps, rct⟩ := h
  refine ⟨?_, by omega⟩
  unfold inB
  simp
  omega
theorem frame_turn {f : FormD} {m : ImgD} {p : ParD} (h : MadeOk f 8 m p) (k : Nat) (hk : k < 7) : frameE (turnM k m) (turnP k m p) = wantE k := by
  have hp0 := pic_ok h
  obtain ⟨t1, t2⟩ := tiles_ok h
  obtain ⟨ox0, ox1, oy0, oy1, x0, x1, y0, y1, n1, n4, par, tx0, tx1, ty0, ty1, few, comps, rct⟩ := h
  have hk' : k = 0 ∨ k = 1 ∨ k = 2 ∨ k = 3 ∨ k = 4 ∨ k = 5 ∨ k = 6 := by omega
  rcases hk' with rfl | rfl | rfl | rfl | rfl | rfl | rfl
  · have e : picE (turnM 0 m) = 14 := by
      unfold picE turnM
      simp only
      rw [if_neg (by omega), if_pos (by omega)]
    unfold frameE
    rw [e]
    rfl
  · have e : picE (turnM 1 m) = 1 := by
      unfold picE turnM
      simp only
      rw [if_pos (by omega)]
    unfold frameE
    rw [e]
    rfl
  · have e : picE (turnM 2 m) = 1 := by
      unfold picE turnM
      simp only
      have hl : (dx5 m.cs).length = m.cs.length := by cases m.cs <;> rfl
      rw [if_neg (by omega), if_neg (by omega), hl, if_neg (by unfold inB; simp; omega), if_neg]
      match hm : m.cs, n1 with
      | c :: r, _ => simp [dx5, compB, inB]
      | [], hn => simp at hn
    unfold frameE
    rw [e]
    rfl
  · unfold frameE turnM turnP
    simp only
    rw [if_neg (by simp [hp0]), if_pos (by unfold inB; simp; omega)]
    rfl
  · unfold frameE turnM turnP
    simp only
    rw [if_neg (by simp [hp0]), if_neg (by rw [t1]; simp), if_neg t2, if_pos (by unfold waysB inB; simp)]
    rfl
  · unfold frameE turnM turnP
    simp only
    rw [if_neg (by simp [hp0]), if_neg (by rw [t1]; simp), if_neg t2, if_pos (by unfold waysB inB; simp)]
    rfl
  · have e : picE (turnM 6 m) = 4 := by
      unfold picE turnM
      simp only
      have hl : (five m.cs).length = 5 := by unfold five; simp; omega
      rw [if_neg (by omega), if_neg (by omega), hl, if_pos (by decide)]
    unfold frameE
    rw [e]
    rfl

theorem turn_comps {f : FormD} {m : ImgD} {p : ParD} (h : MadeOk f 8 m p) (k : Nat) : (turnM k m).cs.length ≤ 5 ∧ ∀ c ∈ (turnM k m).cs, 1 ≤ c.depth ∧ c.depth ≤ 16 ∧ 0 ≤ c.dx ∧ c.dx ≤ 100 ∧ 0 ≤ c.dy ∧ c.dy ≤ 100 := by
  obtain ⟨dp, -, -, hall⟩ := h.comps
  have n4 := h.n4
  have n1 := h.n1
  have hb : ∀ c ∈ m.cs, 1 ≤ c.depth ∧ c.depth ≤ 16 ∧ 0 ≤ c.dx ∧ c.dx ≤ 100 ∧ 0 ≤ c.dy ∧ c.dy ≤ 100 := fun c hc => by
    have := hall c hc
    unfold FmOk at this
    omega
  unfold turnM
  split
  · exact ⟨by simp only; omega, hb⟩
  · exact ⟨by simp only; omega, hb⟩
  · refine ⟨by simp only; cases hm : m.cs <;> simp [dx5] <;> (rw [hm] at n4; simp at n4; omega), ?_⟩
    intro c hc
    match hm : m.cs, n1 with
    | c0 :: r, _ =>
      simp only [hm, dx5, List.mem_cons] at hc
      rcases hc with rfl | hc
      · have := hb c0 (by rw [hm]; simp)
        simp only
        omega
      · exact hb c (by rw [hm]; simp [hc])
    | [], hn => simp at hn
  · refine ⟨by simp only [five, List.length_append, List.length_replicate]; omega, ?_⟩
    intro c hc
    simp only [five, List.mem_append, List.mem_replicate] at hc
    rcases hc with hc | ⟨-, rfl⟩
    · exact hb c hc
    · match hm : m.cs, n1 with
      | c0 :: r, _ => exact hb _ (by rw [hm]; simp)
      | [], hn => simp at hn
  · exact ⟨by omega, hb⟩
theorem turn_siz {f : FormD} {m : ImgD} {p : ParD} (h : MadeOk f 8 m p) (k : Nat) : SizOk (turnM k m) (turnP k m p) := by
  obtain ⟨l5, hb⟩ := turn_comps h k
  obtain ⟨ox0, ox1, oy0, oy1, x0, x1, y0, y1, n1, n4, par, tx0, tx1, ty0, ty1, few, comps, rct⟩ := h
  refine ⟨?_, ?_, ?_, ?_, ?_, ?_, by omega, fun c hc => by have := hb c hc; omega⟩
  · unfold turnM; split <;> (try simp only) <;> omega
  · unfold turnM; split <;> (try simp only) <;> omega
  · unfold turnM; split <;> (try simp only) <;> omega
  · unfold turnM; split <;> (try simp only) <;> omega
  · unfold turnP; split <;> (try simp only) <;> omega
  · unfold turnP; split <;> (try simp only) <;> omega
theorem turn_fit {f : FormD} {m : ImgD} {p : ParD} (h : MadeOk f 8 m p) (k : Nat) : CodFit (turnP k m p) ∧ (turnP k m p).lv ≤ 5 := by
  have hp := h.par
  unfold ParOk at hp
  unfold CodFit turnP
  split <;> (try simp only) <;> omega
/-- Parse refuses such a head as its frame is -/
theorem turn_all {f : FormD} {m : ImgD} {p : ParD} (h : MadeOk f 8 m p) (k : Nat) (hk : k < 7) : All (mainM (turnM k m) (turnP k m p) [] ++ [255, 144]) (wantE k) (headOf (turnM k m) (turnP k m p) []) [] := by
  have := head_all (turn_siz h k) (by have := (turn_comps h k).1; omega) (turn_fit h k).1 [] [] (by decide)
  rw [frame_turn h k hk] at this
  exact this
theorem turn_len {f : FormD} {m : ImgD} {p : ParD} (h : MadeOk f 8 m p) (k : Nat) : (mainM (turnM k m) (turnP k m p) []).length + 2 ≤ 1000000 := by
  have h1 := (turn_comps h k).1
  obtain ⟨h2, h3⟩ := turn_fit h k
  unfold mainM
  simp only [List.length_append, segB_length, sizB_length, codM_length _ h2.1.1, qcdM_length, comB_length, putsB_length, List.length_cons, List.length_nil]
  split <;> omega
end Go.Proofs.Ytlhlhlabnjfhcaa
