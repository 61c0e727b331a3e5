/-
  The contract of the law's change: it changes numbers and names of a tree's nodes in place, and nothing else. By this session, out of its own program (wip/gen).
-/
import Derived.Test.YtmdbbfoejmakdaaDoorHclone2
import Derived.Laws.Concat
namespace Go.Proofs.YtmdbbfoejmakdaaDoor.Ha
open Go.RowKit Go.Shelf Go.Proofs.YtmdbbfoejmakdaaDoorW.PrintWords Go.Proofs.YtmdbbfoejmakdaaDoorW.PrintLast Go.Proofs.YtmdbbfoejmakdaaDoorW.PrintMore Go.Proofs.YtmdbbfoejmakdaaDoor.P
set_option linter.unusedVariables false
set_option linter.unusedSimpArgs false
/-- A tree of nodes that may be written: the node's cells from offset o of block g on. -/
inductive Sh (W : World) (n0 n1 M : Nat) : Nd → Nat → Nat → Prop
  | mk (x : Nd) (g o : Nat) (i : Int) (s : ByteArray) (A : Option Addr) (c g' : Nat) (hg : n0 ≤ g ∧ g < n1) (ho : o % 4 = 0) (h1 : W.cell? ⟨g, o + 1, none⟩ = some (.int .i64 i)) (h2 : W.cell? ⟨g, o + 2, none⟩ = some (.string s)) (hM : s.size ≤ M)
      (h3 : W.cell? ⟨g, o + 3, none⟩ = some (.slice A x.f3.length c)) (f1 : W.frozen? ⟨g, o + 1, none⟩ = false) (f2 : W.frozen? ⟨g, o + 2, none⟩ = false) (hc : x.f3.length ≤ c)
      (hA : x.f3 ≠ [] → A = some ⟨g', 0, none⟩) (hk : ∀ k y, x.f3[k]? = some y → Sh W n0 n1 M y g' (k * 4)) : Sh W n0 n1 M x g o
/-- What change leaves: from block n0 on numbers and names may be others. -/
structure Chg (n0 n1 d : Nat) (W W' : World) : Prop where
  but : But (fun b => n0 ≤ b ∧ b < n1) W W'
  c3 : ∀ g o, o % 4 = 3 → W'.cell? ⟨g, o, none⟩ = W.cell? ⟨g, o, none⟩
  c1 : ∀ g o i, o % 4 = 1 → W.cell? ⟨g, o, none⟩ = some (.int .i64 i) → ∃ i', W'.cell? ⟨g, o, none⟩ = some (.int .i64 i')
  c2 : ∀ g o s, o % 4 = 2 → W.cell? ⟨g, o, none⟩ = some (.string s) → ∃ s', W'.cell? ⟨g, o, none⟩ = some (.string s') ∧ s'.size ≤ s.size + d
  fz : ∀ a, W'.frozen? a = W.frozen? a
theorem Chg.refl (n0 n1 : Nat) (W : World) : Chg n0 n1 0 W W := ⟨But.refl _ _, fun _ _ _ => rfl, fun g o i _ h => ⟨i, h⟩, fun g o s _ h => ⟨s, h, Nat.le_refl _⟩, fun _ => rfl⟩
theorem Chg.trans {n0 n1 d e : Nat} {A B C : World} (h : Chg n0 n1 d A B) (k : Chg n0 n1 e B C) : Chg n0 n1 (d + e) A C :=
  ⟨h.but.trans k.but, fun g o h1 => (k.c3 g o h1).trans (h.c3 g o h1), fun g o i h1 h2 => by
    obtain ⟨i', e1⟩ := h.c1 g o i h1 h2
    exact k.c1 g o i' h1 e1, fun g o s h1 h2 => by
    obtain ⟨s', e1, l1⟩ := h.c2 g o s h1 h2
    obtain ⟨s2, e2, l2⟩ := k.c2 g o s' h1 e1
    exact ⟨s2, e2, by omega⟩, fun a => (k.fz a).trans (h.fz a)⟩
theorem Sh.chg {W W' : World} {n0 n1 M d : Nat} (hC : Chg n0 n1 d W W') {x : Nd} {g o : Nat} (h : Sh W n0 n1 M x g o) : Sh W' n0 n1 (M + d) x g o := by
  induction h with
  | mk x g o i s A c g' hg ho h1 h2 hM h3 f1 f2 hc hA hk ih =>
    obtain ⟨i', e1⟩ := hC.c1 g (o + 1) i (by omega) h1
    obtain ⟨s', e2, l2⟩ := hC.c2 g (o + 2) s (by omega) h2
    exact .mk x g o i' s' A c g' hg ho e1 e2 (by omega) ((hC.c3 g (o + 3) (by omega)).trans h3) ((hC.fz _).trans f1) ((hC.fz _).trans f2) hc hA ih
theorem Sh.mono {W : World} {n0 n1 M M' : Nat} (hM' : M ≤ M') {x : Nd} {g o : Nat} (h : Sh W n0 n1 M x g o) : Sh W n0 n1 M' x g o := by
  induction h with
  | mk x g o i s A c g' hg ho h1 h2 hM h3 f1 f2 hc hA hk ih => exact .mk x g o i s A c g' hg ho h1 h2 (by omega) h3 f1 f2 hc hA ih
theorem Sh.keep {W W' : World} {n0 n1 M : Nat} (hb : Below W.heap.size W W') {x : Nd} {g o : Nat} (h : Sh W n0 n1 M x g o) : Sh W' n0 n1 M x g o := by
  induction h with
  | mk x g o i s A c g' hg ho h1 h2 hM h3 f1 f2 hc hA hk ih =>
    have hl := World.block_lt_of_cell? W _ h1
    exact .mk x g o i s A c g' hg ho (pw_cell_below hb h1) (pw_cell_below hb h2) hM (pw_cell_below hb h3) ((hb.frozen (p := ⟨g, o + 1, none⟩) hl).trans f1) ((hb.frozen (p := ⟨g, o + 2, none⟩) hl).trans f2) hc hA ih
theorem set_ne {W : World} {g o o' : Nat} {v : Value} (h : o ≠ o') : (W.setCell ⟨g, o, none⟩ v).cell? ⟨g, o', none⟩ = W.cell? ⟨g, o', none⟩ := sc_ne h
theorem cell_set {W : World} {g o g' o' : Nat} {v : Value} (h : ¬ (g = g' ∧ o = o')) : (W.setCell ⟨g, o, none⟩ v).cell? ⟨g', o', none⟩ = W.cell? ⟨g', o', none⟩ := by
  by_cases hg : g = g'
  · subst hg
    exact sc_ne (fun e => h ⟨rfl, e⟩)
  · exact cell_far (W := W) (p := ⟨g, o, none⟩) (a := ⟨g', o', none⟩) (fun e => hg e.symm) v
theorem Chg.one {W : World} {n0 n1 g o : Nat} (hg : n0 ≤ g ∧ g < n1) (ho : o % 4 = 0) {i i' : Int} {s : ByteArray} (h1 : W.cell? ⟨g, o + 1, none⟩ = some (.int .i64 i)) (h2 : W.cell? ⟨g, o + 2, none⟩ = some (.string s)) :
    Chg n0 n1 1 W ((W.setCell ⟨g, o + 1, none⟩ (.int .i64 i')).setCell ⟨g, o + 2, none⟩ (.string (s ++ ⟨#[113]⟩))) := by
  refine ⟨((But.refl _ W).setCell ⟨g, o + 1, none⟩ _ hg).setCell ⟨g, o + 2, none⟩ _ hg, fun g1 o1 h3 => ?_, fun g1 o1 j h3 h4 => ?_, fun g1 o1 s1 h3 h4 => ?_, fun a => by rw [World.frozen?_setCell, World.frozen?_setCell]⟩
  · rw [cell_set (by omega), cell_set (by omega)]
  · rw [cell_set (by omega)]
    by_cases he : g = g1 ∧ o + 1 = o1
    · obtain ⟨rfl, rfl⟩ := he
      exact ⟨i', sc_eq h1⟩
    · rw [cell_set he]
      exact ⟨j, h4⟩
  · by_cases he : g = g1 ∧ o + 2 = o1
    · obtain ⟨rfl, rfl⟩ := he
      rw [h2] at h4
      cases h4
      exact ⟨_, sc_eq (u := .string s) (by rw [cell_set (by omega)]; exact h2), by rw [ByteArray.size_append]; exact Nat.le_refl _⟩
    · rw [cell_set he, cell_set (by omega)]
      exact ⟨s1, h4, by omega⟩
theorem m_le {M s l a b t N : Nat} (h1 : s = 1 + l) (h2 : t = a + b) (h3 : t ≤ l) (h4 : M + s ≤ N) : M + (1 + a) + b ≤ N := by omega
set_option maxHeartbeats 4000000 in
set_option maxRecDepth 100000 in
theorem change_n : ∀ (n : Nat) (x : Nd) (g o n0 n1 M : Nat) (W : World), SizeOf.sizeOf x ≤ n → Sh W n0 n1 M x g o → szN x ≤ 1000000 → M + szN x ≤ 1000000000000000 →
    Calls Tryd.prog 44 #[.pointer (some ⟨g, o, none⟩)] W fun e W' => (∃ v, e = .returned v) ∧ Chg n0 n1 (szN x) W W' := by
  intro n
  induction n with
  | zero => intro x g o n0 n1 M W hn; exact absurd hn (by cases x; simp)
  | succ n ih =>
    intro x g o n0 n1 M W hn hSh hs hMs
    have HIH := Aside0.mk ih
    have HN := Aside0.mk hn
    have HS := Aside0.mk hs
    have HMS := Aside0.mk hMs
    have HSH := Aside0.mk hSh
    clear ih hn hs hMs
    cases hSh with
    | mk _ _ _ i s A c g' hg ho h1 h2 hM h3 f1 f2 hc hA hk =>
    have HLEN : Aside0 (x.f3.length ≤ 1000000) := ⟨len_le (szN_eq x) (szL_len x.f3) HS.out⟩
    have hadd : ∀ w, (Op.stringOp .add s ⟨#[113]⟩).run Tryd.prog w = .ok (.string (s ++ ⟨#[113]⟩)) w := fun w => run_string_add_sum w s ⟨#[113]⟩ (by have := HMS.out; have e : ByteArray.size ⟨#[113]⟩ = 1 := rfl; omega)
    have HK := Aside0.mk hk
    have HA := Aside0.mk hA
    have HC1 := Aside0.mk (fun i' => Chg.one (i' := i') hg ho h1 h2)
    have q2 : ∀ v, (W.setCell ⟨g, o + 1, none⟩ v).cell? ⟨g, o + 2, none⟩ = some (.string s) := fun v => (cell_set (by omega)).trans h2
    have q3 : ∀ v v', ((W.setCell ⟨g, o + 1, none⟩ v).setCell ⟨g, o + 2, none⟩ v').cell? ⟨g, o + 3, none⟩ = some (.slice A x.f3.length c) := fun v v' => (cell_set (by omega)).trans ((cell_set (by omega)).trans h3)
    have hl6 := HLEN.out
    clear hk hA
    go_enter Tryd.func44, Tryd.ntmps44
    go_wp2
    go_loopw [22] (fun v wr => ∃ k : Nat, k ≤ x.f3.length ∧ v = .int .i64 k ∧ Aside0 (Chg n0 n1 (1 + szL (x.f3.take k)) W wr)) (fun v _ => x.f3.length - (intOf v).toNat)
    case atStart => exact ⟨0, Nat.zero_le _, rfl, ⟨HC1.out _⟩⟩
    case round =>
      obtain ⟨k, hk, rfl, HR⟩ := hrel
      have q4 : wr.cell? ⟨g, o + 3, none⟩ = some (.slice A x.f3.length c) := (HR.out.c3 g (o + 3) (by omega)).trans h3
      by_cases hlt : k < x.f3.length
      · obtain ⟨y, hy⟩ : ∃ y, x.f3[k]? = some y := ⟨_, List.getElem?_eq_getElem hlt⟩
        obtain rfl := HA.out (by intro e; rw [e] at hlt; simp at hlt)
        have HCY : Aside0 (Calls Tryd.prog 44 #[.pointer (some ⟨g', k * 4, none⟩)] wr fun e W' => (∃ v, e = .returned v) ∧ Chg n0 n1 (szN y) wr W') :=
          ⟨HIH.out y g' (k * 4) n0 n1 (M + (1 + szL (x.f3.take k))) wr (so_le (kid_lt (x := x) (List.mem_of_getElem? hy)) HN.out) ((HK.out k y hy).chg HR.out) (len_le (szN_eq x) (szL_mem (List.mem_of_getElem? hy)) HS.out) (m_le (szN_eq x) (szL_take x.f3 k y hy) (szL_take_le x.f3 (k + 1)) HMS.out)⟩
        have HY := Aside0.mk hy
        clear hy
        go_wp2_with fail
        refine HCY.out.mono ?_
        rintro e w5 ⟨⟨v, rfl⟩, hC5⟩
        have HC5 : Aside0 (Chg n0 n1 (1 + szL (x.f3.take (k + 1))) W w5) := ⟨by
          have h := HR.out.trans hC5
          rw [szL_take x.f3 k y HY.out, ← Nat.add_assoc]
          exact h⟩
        clear hC5 HCY
        go_wp2
        go_roundw
        case rel => exact ⟨k + 1, hlt, by go_num, HC5⟩
        case measure => simp [intOf]; omega
      · have ek : k = x.f3.length := by omega
        subst ek
        go_wp2
        go_end0
        refine ⟨⟨_, rfl⟩, ?_⟩
        have h := HR.out
        rw [List.take_length, ← szN_eq] at h
        exact h
/-- Every name of a tree has at most M letters. -/
def nmOk (M : Nat) : Nd → Prop
  | ⟨_, _, nm, ks⟩ => nm.size ≤ M ∧ nmL ks
where nmL : List Nd → Prop
  | [] => True
  | x :: r => nmOk M x ∧ nmL r
theorem nmL_mem {M : Nat} {l : List Nd} {x : Nd} (h : nmOk.nmL M l) (hx : x ∈ l) : nmOk M x := by
  induction l with
  | nil => cases hx
  | cons y r ih =>
    rw [nmOk.nmL] at h
    cases hx with
    | head => exact h.1
    | tail _ hx => exact ih h.2 hx
theorem nmL_all {M : Nat} {l : List Nd} (h : ∀ x ∈ l, nmOk M x) : nmOk.nmL M l := by
  induction l with
  | nil => rw [nmOk.nmL]; trivial
  | cons y r ih => rw [nmOk.nmL]; exact ⟨h y (List.mem_cons_self ..), ih fun z hz => h z (List.mem_cons_of_mem _ hz)⟩
theorem nmOk_eq {M : Nat} {x : Nd} (h : nmOk M x) : x.f2.size ≤ M ∧ nmOk.nmL M x.f3 := by
  cases x
  rw [nmOk] at h
  exact h
/-- The rows of a made tree may be written. -/
theorem sh_rows (W : World) (n0 n1 M : Nat) (hn1 : W.heap.size ≤ n1) : ∀ (n : Nat) (ks : List Nd), SizeOf.sizeOf ks ≤ n → ∀ (ok : Nat → Prop) (v : Value), Kd.R kNd 24 W n0 ok v ks → nmOk.nmL M ks →
    ∃ A c g', v = .slice A ks.length c ∧ ks.length ≤ c ∧ (ks ≠ [] → A = some ⟨g', 0, none⟩) ∧ ∀ k y, ks[k]? = some y → Sh W n0 n1 M y g' (k * 4) := by
  intro n
  induction n with
  | zero => intro ks hn; exact absurd hn (by cases ks <;> simp)
  | succ n ih =>
    intro ks hn ok v hR hM
    obtain ⟨A, c, e, hlc, _⟩ := Kd.R_reads hR
    by_cases h0 : ks = []
    · exact ⟨A, c, 0, e, hlc, fun h => absurd h0 h, fun k y hk => by rw [h0] at hk; simp at hk⟩
    · obtain ⟨_, inner, hown, hreps⟩ := hR
      obtain ⟨g, cap, e2⟩ := Joins.ownsRow_form hown (List.length_pos_iff.2 h0)
      subst e2
      simp only [Value.slice.injEq, true_and] at e
      obtain ⟨rfl, rfl⟩ := e
      have hg := own_base hown g rfl
      have hgl := own_lt hown g rfl
      refine ⟨_, _, g, rfl, hlc, fun _ => rfl, fun k y hk => ?_⟩
      have hkl := (List.getElem?_eq_some_iff.1 hk).1
      have hkm := List.mem_of_getElem? hk
      have hm := hreps.2 k y hk
      obtain ⟨v3, ec, hR3⟩ := k24_openM hm
      obtain ⟨A', c', g', rfl, hlc', hA', hk'⟩ := ih y.f3 (by
        have h1 : SizeOf.sizeOf y < SizeOf.sizeOf ks := List.sizeOf_lt_of_mem hkm
        have h2 : SizeOf.sizeOf y.f3 < SizeOf.sizeOf y := by cases y; simp; omega
        omega) _ _ hR3 (nmOk_eq (nmL_mem hM hkm)).2
      have hcell : ∀ i u, [Value.int .u8 y.f0, .int .i64 y.f1, .string y.f2, .slice A' y.f3.length c'][i]? = some u → W.cell? ⟨g, k * 4 + i, none⟩ = some u := fun i u hu => by
        have hi : i < 4 := by have := (List.getElem?_eq_some_iff.1 hu).1; simpa using this
        rw [← ec] at hu
        have hu2 : inner[k * 4 + i]? = some u := by
          have : ((inner.drop (k * 4)).take 4)[i]? = some u := hu
          rw [List.getElem?_take_of_lt hi, List.getElem?_drop] at this
          exact this
        have := hown.cells (g := g) rfl (k * 4 + i) u hu2
        rwa [add_plain] at this
      exact .mk y g (k * 4) y.f1 y.f2 A' c' g' ⟨hg, by omega⟩ (by omega) (hcell 1 _ rfl) (hcell 2 _ rfl) (nmOk_eq (nmL_mem hM hkm)).1 (hcell 3 _ rfl) (own_frozen hown _) (own_frozen hown _) hlc' hA' hk'
end Go.Proofs.YtmdbbfoejmakdaaDoor.Ha
