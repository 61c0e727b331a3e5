/-
  The contracts of lexer.Name and of what it calls: a name is what nameB says, wherever the table of ASCII spaces reads as the library lays it. By this session, out of its own program (wip/gen).
-/
import Derived.Test.YtmdbbfoejmakdaaDoorFields
import Derived.Test.YtmdbbfoejmakdaaDoorWWords
import Derived.WalkKit
import Derived.OwnWalk
import Derived.Outline
import Derived.Lib.SmallJoins
import Derived.WalkSpells
namespace Go.Proofs.YtmdbbfoejmakdaaDoor.Hl
open Go.RowKit Go.Proofs.YtmdbbfoejmakdaaDoorW.PrintWords
set_option linter.unusedVariables false
set_option linter.unusedSimpArgs false

theorem bret {a b : Bool} (h : a = b) : Ending.returned (.bool a) = .returned (.bool b) := by rw [h]
theorem iret {k : IntKind} {a b : Int} (h : a = b) : Ending.returned (.int k a) = .returned (.int k b) := by rw [h]
def letB (c : Int) : Bool := decide (97 ≤ c) && decide (c ≤ 122)
def digB (c : Int) : Bool := decide (48 ≤ c) && decide (c ≤ 57)
def wordB (c : Int) : Bool := letB c || digB c
set_option maxHeartbeats 1000000 in
theorem letter (c : Int) (w : World) : Calls Tryd.prog 138 #[.int .u8 c] w fun e w' => e = .returned (.bool (letB c)) ∧ w = w' := by
  by_cases h : 97 ≤ c
  · go_enter Tryd.func138, Tryd.ntmps138
    go_wp2
    go_ret
    exact ⟨bret (by rw [Bool.eq_iff_iff]; simp [letB] <;> omega), rfl⟩
  · go_enter Tryd.func138, Tryd.ntmps138
    go_wp2
    go_ret
    exact ⟨bret (by rw [Bool.eq_iff_iff]; simp [letB] <;> omega), rfl⟩
set_option maxHeartbeats 1000000 in
theorem digit (c : Int) (w : World) : Calls Tryd.prog 153 #[.int .u8 c] w fun e w' => e = .returned (.bool (digB c)) ∧ w = w' := by
  by_cases h : 48 ≤ c
  · go_enter Tryd.func153, Tryd.ntmps153
    go_wp2
    go_ret
    exact ⟨bret (by rw [Bool.eq_iff_iff]; simp [digB] <;> omega), rfl⟩
  · go_enter Tryd.func153, Tryd.ntmps153
    go_wp2
    go_ret
    exact ⟨bret (by rw [Bool.eq_iff_iff]; simp [digB] <;> omega), rfl⟩
set_option maxHeartbeats 1000000 in
theorem word (c : Int) (w : World) : Calls Tryd.prog 152 #[.int .u8 c] w fun e w' => e = .returned (.bool (wordB c)) ∧ w = w' := by
  have h1 := Aside0.mk (letter c)
  have h2 := Aside0.mk (digit c)
  have E : wordB c = (letB c || digB c) := rfl
  generalize letB c = b at *
  generalize digB c = d at *
  have HE := Aside0.mk E
  clear E
  cases b
  · go_enter Tryd.func152, Tryd.ntmps152
    go_wp2_with fail
    refine (h1.out _).mono ?_
    rintro e w' ⟨rfl, rfl⟩
    go_wp2_with fail
    refine (h2.out _).mono ?_
    rintro e w' ⟨rfl, rfl⟩
    go_wp2
    go_ret
    exact ⟨bret (by rw [HE.out]; simp), rfl⟩
  · go_enter Tryd.func152, Tryd.ntmps152
    go_wp2_with fail
    refine (h1.out _).mono ?_
    rintro e w' ⟨rfl, rfl⟩
    go_wp2
    go_ret
    exact ⟨bret (by rw [HE.out]; simp), rfl⟩

/-- How many bytes at the begin of a text may stand in a word. -/
def runN : List UInt8 → Nat
  | [] => 0
  | b :: r => if wordB (b.toNat : Int) then runN r + 1 else 0
theorem runN_le (l : List UInt8) : runN l ≤ l.length := by
  induction l with
  | nil => simp [runN]
  | cons b r ih => unfold runN; split <;> simp <;> omega
theorem runN_drop (l : List UInt8) (k : Nat) (hk : k < l.length) : runN (l.drop k) = if wordB ((l[k]'hk).toNat : Int) then runN (l.drop (k + 1)) + 1 else 0 := by
  rw [List.drop_eq_getElem_cons hk]; rfl
set_option maxHeartbeats 1000000 in
theorem run (a : Addr) (s : ByteArray) (w : World) (hs : s.size ≤ maxLen) (hc : w.cell? a = some (.string s)) :
    Calls Tryd.prog 151 #[.func (.func 152) #[] #[], .pointer (some a)] w fun e w' => e = .returned (.int .i64 (runN s.data.toList)) ∧ w = w' := by
  unfold maxLen at hs
  have hl : s.data.toList.length = s.size := by simp
  have HL := Aside0.mk hl
  clear hl
  go_enter Tryd.func151, Tryd.ntmps151
  go_wp2
  go_loop [4] (fun n => ∃ k : Nat, k ≤ s.size ∧ n = .int .i64 k ∧ Aside0 (runN s.data.toList = k + runN (s.data.toList.drop k))) (fun n => s.size - (intOf n).toNat)
  case atStart => exact ⟨0, Nat.zero_le _, rfl, ⟨by simp⟩⟩
  case round =>
    obtain ⟨k, hk, rfl, HR⟩ := hrel
    by_cases hlt : k < s.size
    · have HD := Aside0.mk (runN_drop s.data.toList k (by rw [HL.out]; exact hlt))
      have hw := word (s[k].toNat : Int)
      have HW := Aside0.mk hw
      clear hw
      have e : (s.data.toList[k]'(by rw [HL.out]; exact hlt)) = s[k] := rfl
      rw [e] at HD
      clear e
      cases hb : wordB (s[k].toNat : Int)
      · rw [hb] at HW HD
        clear hb
        go_wp2_with fail
        refine (HW.out _).mono ?_
        rintro e w' ⟨rfl, rfl⟩
        go_wp2
        go_ret
        exact ⟨iret (by rw [HR.out, HD.out]; simp), rfl⟩
      · rw [hb] at HW HD
        clear hb
        go_wp2_with fail
        refine (HW.out _).mono ?_
        rintro e w' ⟨rfl, rfl⟩
        go_wp2
        go_round
        case rel => exact ⟨k + 1, by omega, by go_num, ⟨by rw [HR.out, HD.out]; simp; omega⟩⟩
        case measure => simp [intOf]; omega
    · go_wp2
      go_ret
      exact ⟨iret (by rw [HR.out, List.drop_of_length_le (by rw [HL.out]; omega)]; simp [runN]), rfl⟩

set_option maxHeartbeats 1000000 in
theorem token (s : ByteArray) (w : World) (hs : s.size ≤ maxLen) (h0 : 0 < s.size) (hb : letB (s[0].toNat : Int) = true) :
    Calls Tryd.prog 140 #[.string s] w fun e w' => e = .returned (.tuple #[.int .u8 1, .int .i64 (runN s.data.toList)]) ∧ Below w.heap.size w w' := by
  have h1 := letter (s[0].toNat : Int)
  rw [hb] at h1
  have H1 := Aside0.mk h1
  clear h1 hb
  have H2 := Aside0.mk (fun a w hc => run a s w hs hc)
  unfold maxLen at hs
  go_enter Tryd.func140, Tryd.ntmps140
  go_wp2_with fail
  refine (H1.out _).mono ?_
  rintro e w' ⟨rfl, rfl⟩
  go_wp2_with fail
  refine (H2.out _ _ (by go_simp)).mono ?_
  rintro e w' ⟨rfl, rfl⟩
  go_wp2
  go_ret2
  exact ⟨rfl, (Below.refl _ _).alloc (Nat.le_refl _) _⟩

/-- The first place of a string in a list; -1: none. -/
def idxS (x : ByteArray) : List ByteArray → Int → Int
  | [], _ => -1
  | y :: r, i => if x.toList == y.toList then i else idxS x r (i + 1)
theorem idxS_drop (x : ByteArray) (l : List ByteArray) (k : Nat) (hk : k < l.length) : idxS x (l.drop k) k = if x.toList == l[k].toList then (k : Int) else idxS x (l.drop (k + 1)) ((k : Int) + 1) := by
  rw [List.drop_eq_getElem_cons hk]; rfl
theorem idxS_ge (x : ByteArray) (l : List ByteArray) : ∀ i : Int, 0 ≤ i → decide (idxS x l i ≥ 0) = l.any (fun y => x.toList == y.toList) := by
  induction l with
  | nil => intro i hi; simp [idxS]
  | cons y r ih =>
    intro i hi
    unfold idxS
    by_cases h : (x.toList == y.toList) = true
    · simp [h, hi]
    · rw [if_neg h, ih (i + 1) (by omega)]; simp [h]
set_option maxHeartbeats 1000000 in
theorem index (x : ByteArray) (A : Option Addr) (c : Nat) (l : List ByteArray) (w : World) (hC : Kd.C Kd.string w A l.length l) :
    Calls Tryd.prog 110 #[.slice A l.length c, .string x] w fun e w' => e = .returned (.int .i64 (idxS x l 0)) ∧ w = w' := by
  have hlen : l.length ≤ 9223372036854775807 := hC.2.1
  have HC := Aside0.mk hC
  clear hC
  go_enter Tryd.func110, Tryd.ntmps110
  go_wp2
  go_loop [8] (fun i => ∃ k : Nat, k ≤ l.length ∧ i = .int .i64 k ∧ Aside0 (idxS x l 0 = idxS x (l.drop k) k)) (fun i => l.length - (intOf i).toNat)
  case atStart => exact ⟨0, Nat.zero_le _, rfl, ⟨rfl⟩⟩
  case round =>
    obtain ⟨k, hk, rfl, HR⟩ := hrel
    by_cases hlt : k < l.length
    · obtain ⟨ad, cs, rfl, hcs, hK, hcell⟩ := Kd.C_get HC.out ByteArray.empty (k : Int) (by omega) (by omega)
      have HD := Aside0.mk (idxS_drop x l k hlt)
      have e : l.getD k ByteArray.empty = l[k] := by simp [List.getD_eq_getElem?_getD, List.getElem?_eq_getElem hlt]
      simp only [Int.toNat_natCast] at hK hcell
      rw [e] at hK
      obtain rfl : cs = [.string l[k]] := hK
      have hc0 := hcell 0 _ rfl
      have e2 : k * (Kd.string).sz + 0 = k := by show k * 1 + 0 = k; omega
      rw [e2] at hc0
      clear hcell hcs e e2
      cases hb : (x.toList == l[k].toList)
      · rw [hb] at HD
        go_wp2
        go_round
        case rel => exact ⟨k + 1, by omega, by go_num, ⟨by rw [HR.out, HD.out]; simp⟩⟩
        case measure => simp [intOf]; omega
      · rw [hb] at HD
        go_wp2
        go_ret
        exact ⟨iret (by rw [HR.out, HD.out]; simp), rfl⟩
    · go_wp2
      go_ret
      exact ⟨iret (by rw [HR.out, List.drop_of_length_le (by omega)]; simp [idxS]), rfl⟩
set_option maxHeartbeats 1000000 in
theorem contains (x : ByteArray) (A : Option Addr) (c : Nat) (l : List ByteArray) (w : World) (hC : Kd.C Kd.string w A l.length l) :
    Calls Tryd.prog 73 #[.slice A l.length c, .string x] w fun e w' => e = .returned (.bool (l.any (fun y => x.toList == y.toList))) ∧ w = w' := by
  have H := Aside0.mk (index x A c l w hC)
  have HF := Aside0.mk (idxS_ge x l 0 (by omega))
  clear hC
  go_enter Tryd.func73, Tryd.ntmps73
  go_wp2_with fail
  refine H.out.mono ?_
  rintro e w' ⟨rfl, rfl⟩
  go_wp2
  go_ret
  exact ⟨bret (by rw [← HF.out]), rfl⟩

def kwText : ByteArray := ⟨#[97, 114, 114, 97, 121, 32, 98, 111, 117, 110, 100, 32, 101, 108, 115, 101, 32, 102, 111, 114, 32, 105, 102, 32, 105, 110, 32, 108, 111, 99, 107, 32, 111, 117, 116, 32, 112, 101, 114, 105, 111, 100, 32, 115, 104, 97, 114, 101, 100, 32, 116, 97, 115, 107, 32, 118, 97, 114, 32, 119, 104, 105, 108, 101]⟩
def kws : List ByteArray := (Lib.fields kwText.data.toList).map fun l => ⟨l.toArray⟩
def keyB (s : ByteArray) : Bool := kws.any (fun y => s.toList == y.toList)
def TabOk (w : World) : Prop := Lib.TabIs Tryd.prog w "strings.asciiSpace" .u8 Lib.asciiSpaceTab
theorem TabOk.below {w w' : World} (h : TabOk w) (hb : Below w.heap.size w w') : TabOk w' := Joins.tab_stays (g := 0) (by kernel_rfl) h hb (Nat.le_refl _)

theorem kwText_ascii : ∀ (j : Nat) b, kwText.data.toList[j]? = some b → b.toNat < 128 := by
  have h : kwText.data.toList.all (fun b => decide (b.toNat < 128)) = true := by decide +kernel
  intro j b hj
  have := List.all_eq_true.1 h b (List.mem_of_getElem? hj)
  simpa using this
/-- The strings of a block that was just laid. -/
theorem C_strings (w : World) (l : List ByteArray) (hl : l.length ≤ 9223372036854775807) (t : TypeId) : Kd.C Kd.string (w.alloc (.cells (l.map Value.string).toArray t)) (some ⟨w.heap.size, 0, none⟩) l.length l := by
  refine ⟨rfl, hl, fun hp => ⟨_, rfl, fun j p hj => ⟨[.string p], rfl, rfl, fun i u hu => ?_⟩⟩⟩
  rw [add_plain]
  have hi : i = 0 := by
    have := (List.getElem?_eq_some_iff.1 hu).1
    simp at this
    exact this
  subst hi
  have e2 : j * (Kd.string).sz + 0 = j := by show j * 1 + 0 = j; omega
  have e3 : j * 1 + 0 = j := by omega
  first | rw [e2] | rw [e3] | skip
  rw [World.cell?_alloc_mark]
  simp at hu
  subst hu
  simp [hj]
set_option maxHeartbeats 2000000 in
theorem keyword (s : ByteArray) (w : World) (hT : TabOk w) : Calls Tryd.prog 139 #[.string s] w fun e w' => e = .returned (.bool (keyB s)) ∧ Below w.heap.size w w' := by
  have H := Aside0.mk (Tryd.strings_Fields kwText w (by decide +kernel) kwText_ascii hT)
  have hk : kws.length = (Lib.fields kwText.data.toList).length := by simp [kws]
  have hc := contains s (some ⟨w.heap.size, 0, none⟩) kws.length kws (w.alloc (.cells (kws.map Value.string).toArray 9)) (C_strings w kws (by decide +kernel) _)
  have e1 : (Lib.fields kwText.data.toList).map (fun l => Value.string ⟨l.toArray⟩) = kws.map Value.string := by simp [kws]
  rw [e1, ← hk] at H
  have HC := Aside0.mk hc
  have HE : Aside0 (keyB s = kws.any (fun y => s.toList == y.toList)) := ⟨rfl⟩
  clear hc e1 hk hT
  generalize kws.any (fun y => s.toList == y.toList) = b at *
  generalize keyB s = b2 at *
  generalize kws.length = n at *
  generalize (kws.map Value.string).toArray = C at *
  go_enter Tryd.func139, Tryd.ntmps139
  go_wp2_with fail
  refine H.out.mono ?_
  rintro e w' ⟨rfl, rfl⟩
  go_wp2_with fail
  refine HC.out.mono ?_
  rintro e w' ⟨rfl, rfl⟩
  go_wp2
  go_ret
  exact ⟨bret HE.out.symm, (Below.refl _ _).alloc (Nat.le_refl _) _⟩

/-- What a name is. -/
def nameB (s : ByteArray) : Bool := decide (0 < s.size) && decide (s.size ≤ 12) && letB (bt s 0) && !keyB s && decide (runN s.data.toList = s.size)
theorem isEmpty_toList (s : ByteArray) : s.toList.isEmpty = decide (s.size = 0) := by
  rw [Bool.eq_iff_iff, List.isEmpty_iff, toList_nil_iff_emptyBytes, decide_eq_true_eq]
  constructor
  · intro h; subst h; rfl
  · intro h; cases s with | mk d => cases d with | mk l => cases l with | nil => rfl | cons b r => simp [ByteArray.size] at h
set_option maxHeartbeats 2000000 in
theorem name (s : ByteArray) (w : World) (hT : TabOk w) : Calls Tryd.prog 117 #[.string s] w fun e w' => e = .returned (.bool (nameB s)) ∧ Below w.heap.size w w' := by
  by_cases h0 : 0 < s.size
  · have hne : s.toList.isEmpty = false := by rw [isEmpty_toList]; exact decide_eq_false (by omega)
    have hne2 : ¬ s.toList = [] := by intro h; rw [h] at hne; simp at hne
    by_cases h12 : s.size ≤ 12
    · have hs : s.size ≤ maxLen := by unfold maxLen; omega
      have hs' : s.size ≤ 9223372036854775807 := hs
      have hlet := Aside0.mk (letter (s[0].toNat : Int))
      have hbt : bt s 0 = (s[0].toNat : Int) := by simp [bt, h0]
      have HE : Aside0 (nameB s = (letB (s[0].toNat : Int) && !keyB s && decide (runN s.data.toList = s.size))) := ⟨by unfold nameB; rw [hbt]; simp [h0, h12]⟩
      have HK := Aside0.mk (keyword s w hT)
      have HTok := Aside0.mk (fun hb w => token s w hs h0 hb)
      clear hbt hT
      cases hb : letB (s[0].toNat : Int)
      · rw [hb] at hlet HE
        clear hb
        go_enter Tryd.func117, Tryd.ntmps117
        go_wp2_with fail
        refine (hlet.out _).mono ?_
        rintro e w' ⟨rfl, rfl⟩
        go_wp2
        go_ret
        exact ⟨bret (by rw [HE.out]; simp), Below.refl _ _⟩
      · have HTk := Aside0.mk (HTok.out hb)
        rw [hb] at hlet HE
        clear hb HTok
        generalize keyB s = kb at *
        cases kb
        · by_cases hr : runN s.data.toList = s.size
          · rw [hr] at HTk
            have HR := Aside0.mk hr
            clear hr
            go_enter Tryd.func117, Tryd.ntmps117
            go_wp2_with fail
            refine (hlet.out _).mono ?_
            rintro e w' ⟨rfl, rfl⟩
            go_wp2_with fail
            refine HK.out.mono ?_
            rintro e w1 ⟨rfl, hB1⟩
            have HB1 := Aside0.mk hB1
            clear hB1
            go_wp2_with fail
            refine (HTk.out _).mono ?_
            rintro e w2 ⟨rfl, hB2⟩
            have HB2 := Aside0.mk hB2
            clear hB2
            go_wp2
            go_ret
            exact ⟨bret (by rw [HE.out, decide_eq_true HR.out]; simp), HB1.out.trans (HB2.out.mono HB1.out.size)⟩
          · have hrb : ((runN s.data.toList : Int) == (s.size : Int)) = false := by rw [beq_eq_false_iff_ne]; omega
            have HR := Aside0.mk hr
            clear hr
            generalize runN s.data.toList = rn at *
            go_enter Tryd.func117, Tryd.ntmps117
            go_wp2_with fail
            refine (hlet.out _).mono ?_
            rintro e w' ⟨rfl, rfl⟩
            go_wp2_with fail
            refine HK.out.mono ?_
            rintro e w1 ⟨rfl, hB1⟩
            have HB1 := Aside0.mk hB1
            clear hB1
            go_wp2_with fail
            refine (HTk.out _).mono ?_
            rintro e w2 ⟨rfl, hB2⟩
            have HB2 := Aside0.mk hB2
            clear hB2
            go_wp2
            go_ret
            exact ⟨bret (by rw [HE.out, decide_eq_false HR.out]; simp), HB1.out.trans (HB2.out.mono HB1.out.size)⟩
        · clear HTk
          go_enter Tryd.func117, Tryd.ntmps117
          go_wp2_with fail
          refine (hlet.out _).mono ?_
          rintro e w' ⟨rfl, rfl⟩
          go_wp2_with fail
          refine HK.out.mono ?_
          rintro e w1 ⟨rfl, hB1⟩
          have HB1 := Aside0.mk hB1
          clear hB1
          go_wp2
          go_ret
          exact ⟨bret (by rw [HE.out]; simp), HB1.out⟩
    · have HE : Aside0 (nameB s = false) := ⟨by unfold nameB; simp [h12]⟩
      clear hT
      go_enter Tryd.func117, Tryd.ntmps117
      go_wp2
      go_ret
      exact ⟨bret (by rw [HE.out]), Below.refl _ _⟩
  · have hne : s.toList.isEmpty = true := by rw [isEmpty_toList]; exact decide_eq_true (by omega)
    have hne2 : s.toList = [] := by simpa using hne
    have HE : Aside0 (nameB s = false) := ⟨by unfold nameB; simp [h0]⟩
    clear hT
    go_enter Tryd.func117, Tryd.ntmps117
    go_wp2
    go_ret
    exact ⟨bret (by rw [HE.out]), Below.refl _ _⟩
end Go.Proofs.YtmdbbfoejmakdaaDoor.Hl
