/-
  Plain laws: the printed functions Name, is, Expr, Stmt, Block of the reference answer what nameB, isN say. By this session, out of its own program (wip/gen).
-/
import Derived.Test.YtmdbbfoejmakdaaDoorHev
import Derived.Test.YtmdbbfoejmakdaaDoorHis
import Derived.Test.YtmdbbfoejmakdaaDoorPx6e
namespace Go.Proofs.YtmdbbfoejmakdaaDoor.Ha
open Go.RowKit Go.Proofs.YtmdbbfoejmakdaaDoorW.PrintWords Go.Proofs.YtmdbbfoejmakdaaDoorW.PrintLast Go.Proofs.YtmdbbfoejmakdaaDoorW.PrintMore Go.Proofs.YtmdbbfoejmakdaaDoor.P
set_option linter.unusedVariables false
set_option linter.unusedSimpArgs false
open Hl

theorem toL (s : ByteArray) : s.toList = s.data.toList := ByteArray.toList_eq s
theorem Ev.of {P Q : Nat → Prop} (h : Ev P) (g : ∀ k, P k → Q (k + 1)) : Ev Q := Ev.succ (h.mono g)
theorem rdS_get {l : List ByteArray} {i : Nat} (h : i < l.length) : rdOf ByteArray.empty l (i : Int) = l[i] := by simp [rdOf, List.getD_eq_getElem?_getD, List.getElem?_eq_getElem h]
theorem refIn (l : List ByteArray) (s : ByteArray) (hl : l.length ≤ 1000) : Ev fun k => ontimeref11_In.f k l s = some (l.any fun y => s.toList == y.toList) := by
  obtain ⟨r, rfl, h⟩ := ev_loop (fun r => r = (l.any fun y => s.toList == y.toList)) l.length (fun k i => ontimeref11_In.l0 k l s (i : Int)) (fun i => (l.any fun y => s.toList == y.toList) = ((l.drop i).any fun y => s.toList == y.toList))
    (fun hI => ⟨_, rfl, Ev.all fun k => by simp only [ontimeref11_In.l0]; rw [if_neg (by omega), hI]; simp⟩)
    (fun i hi hI => by
      rw [List.drop_eq_getElem_cons hi, List.any_cons] at hI
      by_cases e : l[i].toList = s.toList
      · have e2 : (s.toList == l[i].toList) = true := by rw [e]; simp
        refine Or.inl ⟨_, rfl, Ev.all fun k => ?_⟩
        simp only [ontimeref11_In.l0]
        rw [if_pos (by omega), if_pos (by omega), rdS_get hi, if_pos e, hI, e2]; rfl
      · have e2 : (s.toList == l[i].toList) = false := beq_eq_false_iff_ne.mpr (fun h => e h.symm)
        refine Or.inr ⟨by rw [hI, e2]; rfl, Ev.all fun k => ?_⟩
        simp only [ontimeref11_In.l0]
        rw [if_pos (by omega), if_pos (by omega), rdS_get hi, if_neg e, w64 (by omega) (by omega)]; rfl)
    (by simp)
  exact h
theorem refLetter (c : Int) : ontimeref11_letter.f c = some (letB c) := by
  unfold ontimeref11_letter.f letB
  split
  · rename_i h; rw [decide_eq_true (show 97 ≤ c from h)]; rfl
  · rename_i h; rw [decide_eq_false (show ¬ 97 ≤ c from h)]; rfl
theorem refDigit (c : Int) : ontimeref11_digit.f c = some (digB c) := by
  unfold ontimeref11_digit.f digB
  split
  · rename_i h; rw [decide_eq_true (show 48 ≤ c from h)]; rfl
  · rename_i h; rw [decide_eq_false (show ¬ 48 ≤ c from h)]; rfl
def spcB (c : Int) : Bool := c == 32 || c == 9 || c == 10 || c == 13
theorem refSpace (c : Int) : ontimeref11_space.f c = some (spcB c) := by
  unfold ontimeref11_space.f spcB
  by_cases h1 : c = 32
  · simp [h1]
  by_cases h2 : c = 9
  · simp [h2]
  by_cases h3 : c = 10
  · simp [h3]
  simp [h1, h2, h3]
theorem kind_step (s : ByteArray) (i : Nat) (hi : i < s.size) (x3 x4 x5 x6 : Bool) (k : Nat) :
    ontimeref11_kind.l0 (k + 1) s x3 x4 x5 x6 (i : Int) = ontimeref11_kind.l0 k s (x3 && wordB (bt s i)) (x4 && digB (bt s i)) (x5 && spcB (bt s i)) (x6 && (bt s i != 10)) (wrap64 ((i : Int) + 1)) := by
  rw [ontimeref11_kind.l0]
  rw [if_pos (by omega)]
  have h0 : (0 : Int) ≤ (i : Int) := by omega
  simp only [refLetter, refDigit, refSpace, Option.bind_some, if_pos h0]
  unfold wordB
  cases x3 <;> cases x4 <;> cases x5 <;> cases x6 <;> cases letB (bt s i) <;> simp
theorem kind_end (s : ByteArray) (x3 x4 x5 x6 : Bool) : ∃ v : Int, (v = 1 ↔ x3 = true) ∧ Ev fun k => ontimeref11_kind.l0 (k + 1) s x3 x4 x5 x6 (s.size : Int) = some v := by
  cases x3
  · cases x4
    · refine ⟨if ((ontimeref11_Signs.f).getD []).any (fun y => s.toList == y.toList) then 3 else if x5 then 4 else if x6 then 5 else 0, ?_, ?_⟩
      · constructor
        · intro h; repeat' split at h
          all_goals exact absurd h (by decide)
        · intro h; cases h
      · refine (refIn ((ontimeref11_Signs.f).getD []) s (by decide)).mono fun k hk => ?_
        rw [ontimeref11_kind.l0, if_neg (by omega), if_neg (by decide), if_neg (by decide)]
        rw [show ontimeref11_Signs.f = some ((ontimeref11_Signs.f).getD []) from rfl, Option.bind_some]
        simp only [Option.getD_some]
        rw [hk]
        simp only [Option.bind_some]
        repeat' split
        all_goals rfl
    · exact ⟨2, by decide, Ev.all fun k => by rw [ontimeref11_kind.l0, if_neg (by omega), if_neg (by decide), if_pos rfl]⟩
  · exact ⟨1, by decide, Ev.all fun k => by rw [ontimeref11_kind.l0, if_neg (by omega), if_pos rfl]⟩
def flg (s : ByteArray) : Nat → Bool × Bool × Bool × Bool
  | 0 => (letB (bt s 0), true, true, bt s 0 == 35)
  | i + 1 => ((flg s i).1 && wordB (bt s i), (flg s i).2.1 && digB (bt s i), (flg s i).2.2.1 && spcB (bt s i), (flg s i).2.2.2 && (bt s i != 10))
theorem flg_iff (s : ByteArray) (n : Nat) : (flg s n).1 = true ↔ letB (bt s 0) = true ∧ ∀ j, j < n → wordB (bt s j) = true := by
  induction n with
  | zero => simp [flg]
  | succ n ih =>
    simp only [flg, Bool.and_eq_true, ih]
    constructor
    · rintro ⟨⟨h1, h2⟩, h3⟩
      refine ⟨h1, fun j hj => ?_⟩
      by_cases e : j = n
      · rw [e]; exact h3
      · exact h2 j (by omega)
    · rintro ⟨h1, h2⟩
      exact ⟨⟨h1, fun j hj => h2 j (by omega)⟩, h2 n (by omega)⟩
theorem runN_all (l : List UInt8) : Hl.runN l = l.length ↔ ∀ x ∈ l, wordB (x.toNat : Int) = true := by
  induction l with
  | nil => simp [Hl.runN]
  | cons b r ih =>
    unfold Hl.runN
    by_cases h : wordB (b.toNat : Int) = true
    · rw [if_pos h]; simp [h, ← ih]
    · rw [if_neg h]; simp [h]
theorem run_bt (s : ByteArray) : Hl.runN s.data.toList = s.size ↔ ∀ j : Nat, j < s.size → wordB (bt s j) = true := by
  have hl : s.data.toList.length = s.size := by simp
  rw [← hl, runN_all]
  constructor
  · intro h j hj
    rw [hl] at hj
    have := h (s.data.toList[j]'(by rw [hl]; exact hj)) (List.getElem_mem _)
    have e : bt s (j : Int) = ((s.data.toList[j]'(by rw [hl]; exact hj)).toNat : Int) := by simp [bt, hj]; rfl
    rw [e]; exact this
  · intro h x hx
    obtain ⟨j, hj, rfl⟩ := List.getElem_of_mem hx
    have hj2 : j < s.size := by rw [← hl]; exact hj
    have e : bt s (j : Int) = ((s.data.toList[j]'hj).toNat : Int) := by simp [bt, hj2]; rfl
    rw [← e]; exact h j hj
theorem refKind (s : ByteArray) (hs : s.size ≤ 9223372036854775807) : ∃ v : Int, (v = 1 ↔ (0 < s.size ∧ letB (bt s 0) = true ∧ Hl.runN s.data.toList = s.size)) ∧ Ev fun k => ontimeref11_kind.f k s = some v := by
  by_cases h0 : s.size = 0
  · exact ⟨0, by constructor; · intro h; cases h
                 · rintro ⟨h, _⟩; omega, Ev.all fun k => by unfold ontimeref11_kind.f; rw [if_pos (by omega)]⟩
  · obtain ⟨v, hv, h⟩ := ev_loop (fun v => v = 1 ↔ (flg s s.size).1 = true) s.size (fun k i => ontimeref11_kind.l0 k s (flg s i).1 (flg s i).2.1 (flg s i).2.2.1 (flg s i).2.2.2 (i : Int)) (fun _ => True)
      (fun _ => kind_end s _ _ _ _)
      (fun i hi _ => Or.inr ⟨trivial, Ev.all fun k => by rw [kind_step s i hi, w64 (by omega) (by omega)]; rfl⟩)
      trivial
    refine ⟨v, ?_, ?_⟩
    · rw [hv, flg_iff, run_bt]
      constructor
      · rintro ⟨a, b⟩; exact ⟨by omega, a, b⟩
      · rintro ⟨_, a, b⟩; exact ⟨a, b⟩
    · refine h.mono fun k hk => ?_
      unfold ontimeref11_kind.f
      rw [if_neg (by omega), if_pos (by omega), refLetter]
      exact hk
theorem kws_eq : ontimeref11_Keywords.f = some kws := by
  unfold ontimeref11_Keywords.f
  congr 1
theorem refName (s : ByteArray) (hs : s.size ≤ 9223372036854775807) : Ev fun k => ontimeref11_Name.f k s = some (nameB s) := by
  obtain ⟨v, hv, h⟩ := refKind s hs
  have hk := refIn kws s (by decide)
  refine (h.and hk).mono fun k ⟨h1, h2⟩ => ?_
  unfold ontimeref11_Name.f nameB
  rw [h1, Option.bind_some, kws_eq, Option.bind_some, h2, Option.bind_some]
  by_cases c1 : v = 1
  · obtain ⟨a, b, c⟩ := hv.1 c1
    rw [if_pos c1, decide_eq_true a, b, decide_eq_true c]
    by_cases c2 : s.size ≤ 12
    · rw [if_pos (by omega), decide_eq_true c2]; simp [keyB]
    · rw [if_neg (by omega), decide_eq_false c2]; simp
  · rw [if_neg c1]
    congr 1
    symm
    rw [Bool.eq_false_iff]
    intro h
    simp only [Bool.and_eq_true, decide_eq_true_eq] at h
    exact c1 (hv.2 ⟨h.1.1.1.1, h.1.1.2, h.2⟩)

def catF (c : Int) : Int := if c = 101 then 1 else if c = 112 then 2 else if c = 115 then 4 else 8
def okC (c : Int) : Prop := c = 101 ∨ c = 112 ∨ c = 115 ∨ c = 98
/-- What the reference says of a kind, beside what the form says. -/
structure Shape (a0 : Int) (f : Form) where
  str : ByteArray
  num : Bool
  lo : Int
  hi : Int
  cat : Int
  hf : formK 24 a0 = some f
  h1 : Ev fun k => ontimeref12_Form.f k a0 = some (str, f.name, num, true)
  h2 : Ev fun k => ontimeref12_bounds.f k a0 = some (lo, hi)
  h3 : Ev fun k => ontimeref12_category.f k a0 = some cat
  hb1 : num = true → lo = f.lo ∧ hi = f.hi
  hb2 : num = false → f.lo = 0 ∧ f.hi = 0
  hstar : str.toList ≠ [42]
  hlen : f.kids.length = str.size
  hlen2 : str.size ≤ 10
  hkid : ∀ i : Nat, (hi : i < f.kids.length) → f.kids[i] = catF (bt str i)
  hok : ∀ i : Nat, i < str.size → okC (bt str i)
  hcat1 : andB f.is 1 = (cat == 101)
  hcat2 : andB f.is 2 = (a0 == 2 || a0 == 3)
  hcat4 : andB f.is 4 = (cat == 115)
  hcat8 : andB f.is 8 = (cat == 98)
theorem ev2 {α : Type} {f : Nat → Option α} {v : α} (h : ∀ k, f (k + 2) = some v) : Ev fun k => f k = some v := ⟨2, fun k hk => by obtain ⟨j, rfl⟩ : ∃ j, k = j + 2 := ⟨k - 2, by omega⟩; exact h j⟩
def shapeR (a0 : Int) (hr : 6 ≤ a0 ∧ a0 < 24) : Shape a0 (⟨1, false, 0, 0, [1, 1]⟩ : Form) where
  str := ⟨#[101, 101]⟩
  num := false
  lo := 0
  hi := 0
  cat := 101
  hf := by unfold formK; rw [if_pos (by exact_mod_cast hr)]
  h1 := ev2 fun k => by unfold ontimeref12_Form.f; rw [if_pos hr.1, decide_eq_true (by omega)]; rfl
  h2 := ev2 fun k => by
    unfold ontimeref12_bounds.f
    rw [if_neg (by omega), if_neg (by omega)]
    have b : (a0 == 43) = false := beq_eq_false_iff_ne.mpr (by omega)
    rw [b]
    simp only [ontimeref12_bounds.j0]
    rw [if_neg (by decide), if_neg (by omega), if_neg (by omega)]
  h3 := ev2 fun k => by unfold ontimeref12_category.f; rw [if_pos (by omega), decide_eq_true (by omega)]; rfl
  hb1 := by decide
  hb2 := by decide
  hstar := by rw [toL]; decide
  hlen := rfl
  hlen2 := by decide
  hkid := fun i hi => by
    match i, hi with
    | 0, _ => rfl
    | 1, _ => rfl
    | j + 2, h => exact absurd h (by simp)
  hok := fun i hi => by
    match i, hi with
    | 0, _ => exact Or.inl rfl
    | 1, _ => exact Or.inl rfl
    | j + 2, h => exact absurd h (by simp [ByteArray.size])
  hcat1 := by decide
  hcat2 := by
    have b1 : (a0 == 2) = false := beq_eq_false_iff_ne.mpr (by omega)
    have b2 : (a0 == 3) = false := beq_eq_false_iff_ne.mpr (by omega)
    rw [b1, b2]; decide
  hcat4 := by decide
  hcat8 := by decide
def shape46 : Shape 46 (⟨4, true, 0, 0, [8]⟩ : Form) where
  str := ⟨#[98]⟩
  num := false
  lo := 0
  hi := 0
  cat := 115
  hf := by rfl
  h1 := ev2 fun k => by rfl
  h2 := ev2 fun k => by rfl
  h3 := ev2 fun k => by rfl
  hb1 := by decide
  hb2 := by decide
  hstar := by rw [toL]; decide
  hlen := rfl
  hlen2 := by decide
  hkid := fun i hi => by
    match i, hi with
    | 0, _ => rfl
    | j + 1, h => exact absurd h (by simp)
  hok := fun i hi => by
    match i, hi with
    | 0, _ => exact Or.inr (Or.inr (Or.inr rfl))
    | j + 1, h => exact absurd h (by simp [ByteArray.size])
  hcat1 := by decide
  hcat2 := by decide
  hcat4 := by decide
  hcat8 := by decide
def shape45 : Shape 45 (⟨4, false, 0, 7, [1]⟩ : Form) where
  str := ⟨#[101]⟩
  num := true
  lo := 0
  hi := 7
  cat := 115
  hf := by rfl
  h1 := ev2 fun k => by rfl
  h2 := ev2 fun k => by rfl
  h3 := ev2 fun k => by rfl
  hb1 := by decide
  hb2 := by decide
  hstar := by rw [toL]; decide
  hlen := rfl
  hlen2 := by decide
  hkid := fun i hi => by
    match i, hi with
    | 0, _ => rfl
    | j + 1, h => exact absurd h (by simp)
  hok := fun i hi => by
    match i, hi with
    | 0, _ => exact Or.inl rfl
    | j + 1, h => exact absurd h (by simp [ByteArray.size])
  hcat1 := by decide
  hcat2 := by decide
  hcat4 := by decide
  hcat8 := by decide
def shape44 : Shape 44 (⟨4, false, 0, 7, [2]⟩ : Form) where
  str := ⟨#[112]⟩
  num := true
  lo := 0
  hi := 7
  cat := 115
  hf := by rfl
  h1 := ev2 fun k => by rfl
  h2 := ev2 fun k => by rfl
  h3 := ev2 fun k => by rfl
  hb1 := by decide
  hb2 := by decide
  hstar := by rw [toL]; decide
  hlen := rfl
  hlen2 := by decide
  hkid := fun i hi => by
    match i, hi with
    | 0, _ => rfl
    | j + 1, h => exact absurd h (by simp)
  hok := fun i hi => by
    match i, hi with
    | 0, _ => exact Or.inr (Or.inl rfl)
    | j + 1, h => exact absurd h (by simp [ByteArray.size])
  hcat1 := by decide
  hcat2 := by decide
  hcat4 := by decide
  hcat8 := by decide
def shape43 : Shape 43 (⟨4, false, 1, 1000, [1, 8]⟩ : Form) where
  str := ⟨#[101, 98]⟩
  num := true
  lo := 1
  hi := 1000
  cat := 115
  hf := by rfl
  h1 := ev2 fun k => by rfl
  h2 := ev2 fun k => by rfl
  h3 := ev2 fun k => by rfl
  hb1 := by decide
  hb2 := by decide
  hstar := by rw [toL]; decide
  hlen := rfl
  hlen2 := by decide
  hkid := fun i hi => by
    match i, hi with
    | 0, _ => rfl
    | 1, _ => rfl
    | j + 2, h => exact absurd h (by simp)
  hok := fun i hi => by
    match i, hi with
    | 0, _ => exact Or.inl rfl
    | 1, _ => exact Or.inr (Or.inr (Or.inr rfl))
    | j + 2, h => exact absurd h (by simp [ByteArray.size])
  hcat1 := by decide
  hcat2 := by decide
  hcat4 := by decide
  hcat8 := by decide
def shape42 : Shape 42 (⟨4, true, 1, 1000, [8]⟩ : Form) where
  str := ⟨#[98]⟩
  num := true
  lo := 1
  hi := 1000
  cat := 115
  hf := by rfl
  h1 := ev2 fun k => by rfl
  h2 := ev2 fun k => by rfl
  h3 := ev2 fun k => by rfl
  hb1 := by decide
  hb2 := by decide
  hstar := by rw [toL]; decide
  hlen := rfl
  hlen2 := by decide
  hkid := fun i hi => by
    match i, hi with
    | 0, _ => rfl
    | j + 1, h => exact absurd h (by simp)
  hok := fun i hi => by
    match i, hi with
    | 0, _ => exact Or.inr (Or.inr (Or.inr rfl))
    | j + 1, h => exact absurd h (by simp [ByteArray.size])
  hcat1 := by decide
  hcat2 := by decide
  hcat4 := by decide
  hcat8 := by decide
def shape41 : Shape 41 (⟨4, false, 0, 0, [1, 8, 8]⟩ : Form) where
  str := ⟨#[101, 98, 98]⟩
  num := false
  lo := 0
  hi := 0
  cat := 115
  hf := by rfl
  h1 := ev2 fun k => by rfl
  h2 := ev2 fun k => by rfl
  h3 := ev2 fun k => by rfl
  hb1 := by decide
  hb2 := by decide
  hstar := by rw [toL]; decide
  hlen := rfl
  hlen2 := by decide
  hkid := fun i hi => by
    match i, hi with
    | 0, _ => rfl
    | 1, _ => rfl
    | 2, _ => rfl
    | j + 3, h => exact absurd h (by simp)
  hok := fun i hi => by
    match i, hi with
    | 0, _ => exact Or.inl rfl
    | 1, _ => exact Or.inr (Or.inr (Or.inr rfl))
    | 2, _ => exact Or.inr (Or.inr (Or.inr rfl))
    | j + 3, h => exact absurd h (by simp [ByteArray.size])
  hcat1 := by decide
  hcat2 := by decide
  hcat4 := by decide
  hcat8 := by decide
def shape40 : Shape 40 (⟨4, false, 0, 0, [2, 1]⟩ : Form) where
  str := ⟨#[112, 101]⟩
  num := false
  lo := 0
  hi := 0
  cat := 115
  hf := by rfl
  h1 := ev2 fun k => by rfl
  h2 := ev2 fun k => by rfl
  h3 := ev2 fun k => by rfl
  hb1 := by decide
  hb2 := by decide
  hstar := by rw [toL]; decide
  hlen := rfl
  hlen2 := by decide
  hkid := fun i hi => by
    match i, hi with
    | 0, _ => rfl
    | 1, _ => rfl
    | j + 2, h => exact absurd h (by simp)
  hok := fun i hi => by
    match i, hi with
    | 0, _ => exact Or.inr (Or.inl rfl)
    | 1, _ => exact Or.inl rfl
    | j + 2, h => exact absurd h (by simp [ByteArray.size])
  hcat1 := by decide
  hcat2 := by decide
  hcat4 := by decide
  hcat8 := by decide
def shape5 : Shape 5 (⟨1, false, 0, 0, [1]⟩ : Form) where
  str := ⟨#[101]⟩
  num := false
  lo := 0
  hi := 0
  cat := 101
  hf := by rfl
  h1 := ev2 fun k => by rfl
  h2 := ev2 fun k => by rfl
  h3 := ev2 fun k => by rfl
  hb1 := by decide
  hb2 := by decide
  hstar := by rw [toL]; decide
  hlen := rfl
  hlen2 := by decide
  hkid := fun i hi => by
    match i, hi with
    | 0, _ => rfl
    | j + 1, h => exact absurd h (by simp)
  hok := fun i hi => by
    match i, hi with
    | 0, _ => exact Or.inl rfl
    | j + 1, h => exact absurd h (by simp [ByteArray.size])
  hcat1 := by decide
  hcat2 := by decide
  hcat4 := by decide
  hcat8 := by decide
def shape4 : Shape 4 (⟨1, false, 0, 0, [1]⟩ : Form) where
  str := ⟨#[101]⟩
  num := false
  lo := 0
  hi := 0
  cat := 101
  hf := by rfl
  h1 := ev2 fun k => by rfl
  h2 := ev2 fun k => by rfl
  h3 := ev2 fun k => by rfl
  hb1 := by decide
  hb2 := by decide
  hstar := by rw [toL]; decide
  hlen := rfl
  hlen2 := by decide
  hkid := fun i hi => by
    match i, hi with
    | 0, _ => rfl
    | j + 1, h => exact absurd h (by simp)
  hok := fun i hi => by
    match i, hi with
    | 0, _ => exact Or.inl rfl
    | j + 1, h => exact absurd h (by simp [ByteArray.size])
  hcat1 := by decide
  hcat2 := by decide
  hcat4 := by decide
  hcat8 := by decide
def shape3 : Shape 3 (⟨3, true, 0, 0, [1]⟩ : Form) where
  str := ⟨#[101]⟩
  num := false
  lo := 0
  hi := 0
  cat := 101
  hf := by rfl
  h1 := ev2 fun k => by rfl
  h2 := ev2 fun k => by rfl
  h3 := ev2 fun k => by rfl
  hb1 := by decide
  hb2 := by decide
  hstar := by rw [toL]; decide
  hlen := rfl
  hlen2 := by decide
  hkid := fun i hi => by
    match i, hi with
    | 0, _ => rfl
    | j + 1, h => exact absurd h (by simp)
  hok := fun i hi => by
    match i, hi with
    | 0, _ => exact Or.inl rfl
    | j + 1, h => exact absurd h (by simp [ByteArray.size])
  hcat1 := by decide
  hcat2 := by decide
  hcat4 := by decide
  hcat8 := by decide
def shape2 : Shape 2 (⟨3, true, 0, 0, []⟩ : Form) where
  str := ⟨#[]⟩
  num := false
  lo := 0
  hi := 0
  cat := 101
  hf := by rfl
  h1 := ev2 fun k => by rfl
  h2 := ev2 fun k => by rfl
  h3 := ev2 fun k => by rfl
  hb1 := by decide
  hb2 := by decide
  hstar := by rw [toL]; decide
  hlen := rfl
  hlen2 := by decide
  hkid := fun i hi => by
    match i, hi with
    | j + 0, h => exact absurd h (by simp)
  hok := fun i hi => by
    match i, hi with
    | j + 0, h => exact absurd h (by simp [ByteArray.size])
  hcat1 := by decide
  hcat2 := by decide
  hcat4 := by decide
  hcat8 := by decide
def shape1 : Shape 1 (⟨1, false, 0, 2147483647, []⟩ : Form) where
  str := ⟨#[]⟩
  num := true
  lo := 0
  hi := 2147483647
  cat := 101
  hf := by rfl
  h1 := ev2 fun k => by rfl
  h2 := ev2 fun k => by rfl
  h3 := ev2 fun k => by rfl
  hb1 := by decide
  hb2 := by decide
  hstar := by rw [toL]; decide
  hlen := rfl
  hlen2 := by decide
  hkid := fun i hi => by
    match i, hi with
    | j + 0, h => exact absurd h (by simp)
  hok := fun i hi => by
    match i, hi with
    | j + 0, h => exact absurd h (by simp [ByteArray.size])
  hcat1 := by decide
  hcat2 := by decide
  hcat4 := by decide
  hcat8 := by decide
theorem shape47 : Ev fun k => ontimeref12_Form.f k 47 = some (⟨#[42]⟩, false, false, true) := ev2 fun k => by rfl
theorem shape_none (a0 : Int) (h : formK 24 a0 = none) (h47 : a0 ≠ 47) : Ev fun k => ontimeref12_Form.f k a0 = some (⟨#[]⟩, false, false, false) := by
  refine ev2 fun k => ?_
  have ne : ∀ c : Int, formK 24 c ≠ none → a0 ≠ c := fun c hc e => hc (by rw [← e]; exact h)
  have hr : ¬ (6 ≤ a0 ∧ a0 < 24) := by intro c; unfold formK at h; rw [if_pos (by exact_mod_cast c)] at h; cases h
  have n46 := ne 46 (by simp [formK, form0])
  have n45 := ne 45 (by simp [formK, form0])
  have n44 := ne 44 (by simp [formK, form0])
  have n43 := ne 43 (by simp [formK, form0])
  have n42 := ne 42 (by simp [formK, form0])
  have n41 := ne 41 (by simp [formK, form0])
  have n40 := ne 40 (by simp [formK, form0])
  have n5 := ne 5 (by simp [formK, form0])
  have n4 := ne 4 (by simp [formK, form0])
  have n3 := ne 3 (by simp [formK, form0])
  have n2 := ne 2 (by simp [formK, form0])
  have n1 := ne 1 (by simp [formK, form0])
  clear ne h
  have b4 : (a0 == 4) = false := beq_eq_false_iff_ne.mpr n4
  have b5 : (a0 == 5) = false := beq_eq_false_iff_ne.mpr n5
  unfold ontimeref12_Form.f
  have hj : ontimeref12_Form.j0 (k + 2) a0 false = some (⟨#[]⟩, false, false, false) := by
    rw [ontimeref12_Form.j0, if_neg (by decide), if_neg n1, if_neg n2, if_neg n3, if_neg n4, b5, ontimeref12_Form.j1, if_neg (by decide), if_neg n40, if_neg n41, if_neg n42, if_neg n43, if_neg n44, if_neg n45, if_neg n46, if_neg h47]
  split
  · rename_i h6; rw [decide_eq_false (by omega)]; exact hj
  · exact hj
theorem shape_any (a0 : Int) (f : Form) (h : formK 24 a0 = some f) : Nonempty (Shape a0 f) := by
  by_cases hr : 6 ≤ a0 ∧ a0 < 24
  · unfold formK at h; rw [if_pos (by exact_mod_cast hr)] at h; cases h; exact ⟨shapeR a0 hr⟩
  by_cases e : a0 = 46
  · subst e; cases h; exact ⟨shape46⟩
  have n46 := e
  clear e
  by_cases e : a0 = 45
  · subst e; cases h; exact ⟨shape45⟩
  have n45 := e
  clear e
  by_cases e : a0 = 44
  · subst e; cases h; exact ⟨shape44⟩
  have n44 := e
  clear e
  by_cases e : a0 = 43
  · subst e; cases h; exact ⟨shape43⟩
  have n43 := e
  clear e
  by_cases e : a0 = 42
  · subst e; cases h; exact ⟨shape42⟩
  have n42 := e
  clear e
  by_cases e : a0 = 41
  · subst e; cases h; exact ⟨shape41⟩
  have n41 := e
  clear e
  by_cases e : a0 = 40
  · subst e; cases h; exact ⟨shape40⟩
  have n40 := e
  clear e
  by_cases e : a0 = 5
  · subst e; cases h; exact ⟨shape5⟩
  have n5 := e
  clear e
  by_cases e : a0 = 4
  · subst e; cases h; exact ⟨shape4⟩
  have n4 := e
  clear e
  by_cases e : a0 = 3
  · subst e; cases h; exact ⟨shape3⟩
  have n3 := e
  clear e
  by_cases e : a0 = 2
  · subst e; cases h; exact ⟨shape2⟩
  have n2 := e
  clear e
  by_cases e : a0 = 1
  · subst e; cases h; exact ⟨shape1⟩
  have n1 := e
  clear e
  exfalso
  unfold formK form0 at h
  rw [if_neg (by exact_mod_cast hr), if_neg n46, if_neg n45, if_neg n44, if_neg n43, if_neg n42, if_neg n41, if_neg n40, if_neg n5, if_neg n4, if_neg n3, if_neg n2, if_neg n1] at h
  cases h

theorem andB_cat {a0 : Int} {f : Form} (S : Shape a0 f) {c : Int} (hc : okC c) : andB f.is (catF c) = if c = 112 then (a0 == 2 || a0 == 3) else (S.cat == c) := by
  rcases hc with rfl | rfl | rfl | rfl
  · exact S.hcat1
  · exact S.hcat2
  · exact S.hcat4
  · exact S.hcat8
theorem is_head {a0 a1 : Int} {a2 : ByteArray} {ks : List Nd} {str : ByteArray} {name num : Bool} {lo hi cat c : Int} {tail : Bool}
    (h1 : Ev fun k => ontimeref12_Form.f k a0 = some (str, name, num, true)) (h2 : Ev fun k => ontimeref12_bounds.f k a0 = some (lo, hi)) (h3 : Ev fun k => ontimeref12_category.f k a0 = some cat)
    (hN : Ev fun k => ontimeref11_Name.f k a2 = some (nameB a2)) (hT : Ev fun k => ontimeref12_is.j3 k str false a0 a1 a2 ks = some tail) :
    Ev fun k => ontimeref12_is.f k a0 a1 a2 ks c = some ((if c = 112 then (a0 == 2 || a0 == 3) else (cat == c)) && ((if num = true then !decide (a1 < lo) && !decide (hi < a1) else (a1 == 0)) && ((if name = true then nameB a2 else a2.toList.isEmpty) && tail))) := by
  have T : ∀ b, Ev fun k => ontimeref12_is.j3 k str b a0 a1 a2 ks = some (!b && tail) := fun b => by
    cases b
    · exact hT
    · exact ev2 fun k => by rw [ontimeref12_is.j3, if_pos rfl]; rfl
  have J2 : ∀ b, Ev fun k => ontimeref12_is.j2 k str name b a0 a1 a2 ks = some (!b && ((if name = true then nameB a2 else a2.toList.isEmpty) && tail)) := fun b => by
    cases b
    · cases name
      · refine (T (a2.toList != ([] : List UInt8))).of fun k hk => ?_
        rw [ontimeref12_is.j2, if_neg (by decide), if_neg (by decide), hk]
        cases h : a2.toList <;> simp
      · refine (hN.and (T (!nameB a2))).of fun k hk => ?_
        rw [ontimeref12_is.j2, if_neg (by decide), if_pos rfl, hk.1, Option.bind_some]
        have h2 := hk.2
        cases hb : nameB a2
        · rw [hb] at h2; rw [if_neg (by decide)]; exact h2
        · rw [hb] at h2; rw [if_pos rfl]; exact h2
    · exact ev2 fun k => by rw [ontimeref12_is.j2, if_pos rfl]; rfl
  have J1 : ∀ b, Ev fun k => ontimeref12_is.j1 k str name num b a0 a1 a2 ks = some (!b && ((if num = true then !decide (a1 < lo) && !decide (hi < a1) else (a1 == 0)) && ((if name = true then nameB a2 else a2.toList.isEmpty) && tail))) := fun b => by
    cases b
    · cases num
      · refine (h2.and (J2 (a1 != 0))).of fun k hk => ?_
        rw [ontimeref12_is.j1, if_neg (by decide), hk.1, Option.bind_some, if_neg (by decide), hk.2]
        simp [bne]
      · by_cases l1 : a1 < lo
        · refine (h2.and (J2 true)).of fun k hk => ?_
          rw [ontimeref12_is.j1, if_neg (by decide), hk.1, Option.bind_some, if_pos rfl, if_pos l1, hk.2]
          simp [l1]
        · by_cases l2 : hi < a1
          · refine (h2.and (J2 true)).of fun k hk => ?_
            rw [ontimeref12_is.j1, if_neg (by decide), hk.1, Option.bind_some, if_pos rfl, if_neg l1, if_pos l2, hk.2]
            simp [l2]
          · refine (h2.and (J2 false)).of fun k hk => ?_
            rw [ontimeref12_is.j1, if_neg (by decide), hk.1, Option.bind_some, if_pos rfl, if_neg l1, if_neg l2, hk.2]
            simp [l1, l2]
    · exact ev2 fun k => by rw [ontimeref12_is.j1, if_pos rfl]; rfl
  have J0 : ∀ b, Ev fun k => ontimeref12_is.j0 k c str name num b a0 a1 a2 ks = some (!b && ((if c = 112 then true else (cat == c)) && ((if num = true then !decide (a1 < lo) && !decide (hi < a1) else (a1 == 0)) && ((if name = true then nameB a2 else a2.toList.isEmpty) && tail)))) := fun b => by
    cases b
    · by_cases hc : c = 112
      · refine (J1 false).of fun k hk => ?_
        rw [ontimeref12_is.j0, if_neg (by decide), if_pos hc, hk]
        simp [hc]
      · refine (h3.and (J1 (cat != c))).of fun k hk => ?_
        rw [ontimeref12_is.j0, if_neg (by decide), if_neg hc, hk.1, Option.bind_some, hk.2, if_neg hc]
        cases hcc : (cat == c) <;> simp [bne, hcc]
    · exact ev2 fun k => by rw [ontimeref12_is.j0, if_pos rfl]; rfl
  by_cases hc : c = 112
  · by_cases e2 : a0 = 2
    · refine (h1.and (J0 false)).of fun k hk => ?_
      rw [ontimeref12_is.f, hk.1, Option.bind_some, if_pos rfl, if_pos hc, if_pos e2, hk.2]
      simp [hc, e2]
    · refine (h1.and (J0 (a0 != 3))).of fun k hk => ?_
      rw [ontimeref12_is.f, hk.1, Option.bind_some, if_pos rfl, if_pos hc, if_neg e2, hk.2]
      have b2 : (a0 == 2) = false := beq_eq_false_iff_ne.mpr e2
      rw [if_pos hc, if_pos hc, b2]
      cases h3 : (a0 == 3) <;> simp [bne, h3]
  · refine (h1.and (J0 false)).of fun k hk => ?_
    rw [ontimeref12_is.f, hk.1, Option.bind_some, if_pos rfl, if_neg hc, hk.2, if_neg hc, if_neg hc]
    simp
theorem isZip_len : ∀ (l : List Nd) (m : List Int), l.length ≠ m.length → isZip l m = false
  | [], [], h => absurd rfl h
  | [], _ :: _, _ => by rw [isZip]; all_goals (intros; simp_all)
  | _ :: _, [], _ => by rw [isZip]; all_goals (intros; simp_all)
  | x :: r, y :: s, h => by rw [isZip, isZip_len r s (by simpa using h)]; simp
theorem catF_eq {c : Int} (hc : okC c) : andB (catF c) 8 = (c == 98) := by rcases hc with rfl | rfl | rfl | rfl <;> decide
theorem refIs : ∀ (n : Nat) (x : Nd), SizeOf.sizeOf x ≤ n → szN x ≤ 1152921504606846976 → okN x → ∀ c, okC c → Ev fun k => ontimeref12_is.f k x.f0 x.f1 x.f2 x.f3 c = some (isN x (catF c)) := by
  intro n
  induction n with
  | zero => intro x hn; exact absurd hn (by cases x; simp)
  | succ n ih =>
    rintro ⟨a0, a1, a2, ks⟩ hn hs hnm c hc
    have hsz := szN_eq (⟨a0, a1, a2, ks⟩ : Nd)
    have hkl : ks.length ≤ szL ks := szL_len ks
    simp only at hsz
    rw [okN] at hnm
    have kid : ∀ i (hi : i < ks.length) (c : Int), okC c → Ev fun k => ontimeref12_is.f k ks[i].f0 ks[i].f1 ks[i].f2 ks[i].f3 c = some (isN ks[i] (catF c)) := fun i hi c hc => by
      have hm := List.getElem_mem hi
      have h1 := szL_mem hm
      have h2 := kid_lt (x := ⟨a0, a1, a2, ks⟩) (y := ks[i]) hm
      exact ih ks[i] (by omega) (by omega) (okL_mem hnm.2.2 hm) c hc
    clear ih
    have hN := refName a2 hnm.2.1
    simp only
    by_cases h47 : a0 = 47
    · subst h47
      have E : isN ⟨47, a1, a2, ks⟩ (catF c) = (andB (catF c) 8 && (a1 == 0) && a2.toList.isEmpty && isAll ks) := by rw [isN, if_pos rfl]
      have L : Ev fun k => ontimeref12_is.l0 k 0 47 a1 a2 ks = some (isAll ks) := by
        obtain ⟨r, rfl, h⟩ := ev_loop (fun r => r = isAll ks) ks.length (fun k i => ontimeref12_is.l0 k (i : Int) 47 a1 a2 ks) (fun i => isAll ks = isAll (ks.drop i))
          (fun hI => ⟨true, by rw [hI]; simp [isAll], Ev.all fun k => by simp only [ontimeref12_is.l0]; rw [if_neg (by omega)]⟩)
          (fun i hi hI => by
            rw [List.drop_eq_getElem_cons hi, isAll] at hI
            have hk := kid i hi 115 (by simp [okC])
            rw [show catF 115 = 4 from rfl] at hk
            cases hb : isN ks[i] 4
            · rw [hb] at hk hI
              exact Or.inl ⟨false, by rw [hI]; rfl, hk.mono fun k hk => by simp only [ontimeref12_is.l0]; rw [if_pos (by omega), if_pos (by omega), rd_get hi, hk]; rfl⟩
            · rw [hb] at hk hI
              exact Or.inr ⟨by rw [hI]; rfl, hk.mono fun k hk => by simp only [ontimeref12_is.l0]; rw [if_pos (by omega), if_pos (by omega), rd_get hi, hk, w64 (by omega) (by omega)]; rfl⟩)
          (by simp)
        exact h
      have hT : Ev fun k => ontimeref12_is.j3 k ⟨#[42]⟩ false 47 a1 a2 ks = some (isAll ks) := L.of fun k hk => by
        rw [ontimeref12_is.j3, if_neg (by decide), if_pos (by rw [toL])]; exact hk
      refine (is_head (c := c) shape47 (ev2 fun k => by rfl : Ev fun k => ontimeref12_bounds.f k 47 = some (0, 0)) (ev2 fun k => by rfl : Ev fun k => ontimeref12_category.f k 47 = some 98) hN hT).mono fun k hk => ?_
      rw [hk, E, catF_eq hc]
      congr 1
      rcases hc with rfl | rfl | rfl | rfl <;> simp [Bool.and_assoc]
    · cases hF : formK 24 a0 with
      | none =>
        have E : isN ⟨a0, a1, a2, ks⟩ (catF c) = false := by rw [isN, if_neg h47, hF]
        rw [E]
        exact (shape_none a0 hF h47).of fun k hk => by rw [ontimeref12_is.f, hk, Option.bind_some, if_neg (by decide)]
      | some f =>
        obtain ⟨S⟩ := shape_any a0 f hF
        have E : isN ⟨a0, a1, a2, ks⟩ (catF c) = (andB f.is (catF c) && !decide (a1 < f.lo) && !decide (f.hi < a1) && (if f.name then nameB a2 else a2.toList.isEmpty) && isZip ks f.kids) := by rw [isN, if_neg h47, hF]
        have hT : Ev fun k => ontimeref12_is.j3 k S.str false a0 a1 a2 ks = some (isZip ks f.kids) := by
          by_cases hl : ks.length = f.kids.length
          · have hlen := S.hlen
            have hlen2 := S.hlen2
            obtain ⟨r, rfl, h⟩ := ev_loop (fun r => r = isZip ks f.kids) f.kids.length (fun k i => ontimeref12_is.l1 k S.str (i : Int) a0 a1 a2 ks) (fun i => isZip ks f.kids = isZip (ks.drop i) (f.kids.drop i))
              (fun hI => ⟨true, by rw [hI, List.drop_length, ← hl, List.drop_length]; simp [isZip], Ev.all fun k => by simp only [ontimeref12_is.l1]; rw [if_neg (by omega)]⟩)
              (fun i hi hI => by
                have hi2 : i < ks.length := by omega
                rw [List.drop_eq_getElem_cons hi, List.drop_eq_getElem_cons hi2, isZip] at hI
                have hk := kid i hi2 (bt S.str i) (S.hok i (by omega))
                rw [← S.hkid i hi] at hk
                cases hb : isN ks[i] f.kids[i]
                · rw [hb] at hk hI
                  exact Or.inl ⟨false, by rw [hI]; rfl, hk.mono fun k hk => by simp only [ontimeref12_is.l1]; rw [if_pos (by omega), if_pos (by omega), if_pos (by omega), rd_get hi2, hk]; rfl⟩
                · rw [hb] at hk hI
                  exact Or.inr ⟨by rw [hI]; rfl, hk.mono fun k hk => by simp only [ontimeref12_is.l1]; rw [if_pos (by omega), if_pos (by omega), if_pos (by omega), rd_get hi2, hk, w64 (by omega) (by omega)]; rfl⟩)
              (by simp)
            exact h.of fun k hk => by rw [ontimeref12_is.j3, if_neg (by decide), if_neg S.hstar, if_pos (by omega)]; exact hk
          · have hlen := S.hlen
            rw [isZip_len _ _ hl]
            exact ev2 fun k => by rw [ontimeref12_is.j3, if_neg (by decide), if_neg S.hstar, if_neg (by omega)]
        refine (is_head (c := c) S.h1 S.h2 S.h3 hN hT).mono fun k hk => ?_
        rw [hk, E, andB_cat S hc]
        congr 1
        have hb1 := S.hb1
        have hb2 := S.hb2
        cases hn : S.num
        · obtain ⟨e1, e2⟩ := hb2 hn
          rw [e1, e2]
          have e3 : (a1 == 0) = (!decide (a1 < 0) && !decide (0 < a1)) := by rw [Bool.eq_iff_iff]; simp; omega
          simp only [Bool.false_eq_true, if_false, e3, Bool.and_assoc]
        · obtain ⟨e1, e2⟩ := hb1 hn
          rw [if_pos rfl, e1, e2]
          simp only [Bool.and_assoc]
theorem refExpr (x : Nd) (hs : szN x ≤ 1152921504606846976) (hn : okN x) : Ev fun k => ontimeref12_Expr.f k x.f0 x.f1 x.f2 x.f3 = some (isN x 1) := (refIs _ x (Nat.le_refl _) hs hn 101 (Or.inl rfl)).mono fun k h => by unfold ontimeref12_Expr.f; rw [h]; rfl
theorem refStmt (x : Nd) (hs : szN x ≤ 1152921504606846976) (hn : okN x) : Ev fun k => ontimeref12_Stmt.f k x.f0 x.f1 x.f2 x.f3 = some (isN x 4) := (refIs _ x (Nat.le_refl _) hs hn 115 (Or.inr (Or.inr (Or.inl rfl)))).mono fun k h => by unfold ontimeref12_Stmt.f; rw [h]; rfl
theorem refBlock (x : Nd) (hs : szN x ≤ 1152921504606846976) (hn : okN x) : Ev fun k => ontimeref12_Block.f k x.f0 x.f1 x.f2 x.f3 = some (isN x 8) := (refIs _ x (Nat.le_refl _) hs hn 98 (Or.inr (Or.inr (Or.inr rfl)))).mono fun k h => by unfold ontimeref12_Block.f; rw [h]; rfl
end Go.Proofs.YtmdbbfoejmakdaaDoor.Ha
