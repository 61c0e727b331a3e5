/-
  The law AstValid, walked: it returns true. By this session, out of its own program (wip/gen).
-/
import Derived.Test.YtmdbbfoejmakdaaDoorHrsame
import Derived.Test.YtmdbbfoejmakdaaDoorHcon2
import Derived.Test.YtmdbbfoejmakdaaDoorHrval
import Derived.Test.YtmdbbfoejmakdaaDoorHawake
import Derived.Test.YtmdbbfoejmakdaaDoorHbig
namespace Go.Proofs.YtmdbbfoejmakdaaDoor.Ha
open Go.RowKit Go.Proofs.YtmdbbfoejmakdaaDoorW.PrintWords Go.Proofs.YtmdbbfoejmakdaaDoorW.PrintLast Go.Proofs.YtmdbbfoejmakdaaDoorW.PrintMore Go.Proofs.YtmdbbfoejmakdaaDoor.P
set_option linter.unusedVariables false
set_option linter.unusedSimpArgs false
open Hl
/-- What the walk knows of the two programs' boxes. -/
structure Two (w : World) (p q : Array Value) (W : World) : Prop where
  below : Below w.heap.size w W
  p : ∀ j, W.cell? ⟨w.heap.size, j, none⟩ = p[j]?
  q : ∀ j, W.cell? ⟨w.heap.size + 1, j, none⟩ = q[j]?
  lt : w.heap.size + 1 < W.heap.size
theorem Two.start (w : World) (p q : Array Value) (t : TypeId) : Two w p q ((w.alloc (.cells p t)).alloc (.cells q t)) :=
  ⟨((Below.refl _ w).alloc (Nat.le_refl _) _).alloc (by simp) _, box_keep ((Below.refl _ _).alloc (Nat.le_refl _) _) (by simp) (box_new w _ _), fun j => by
    have := box_new (w.alloc (.cells p t)) q t j
    rwa [World.size_alloc] at this, by simp⟩
theorem Two.step {w : World} {p q : Array Value} {W W' : World} (h : Two w p q W) (hb : Below W.heap.size W W') : Two w p q W' :=
  ⟨h.below.trans (hb.mono h.below.size), box_keep hb (by have := h.lt; omega) h.p, box_keep hb h.lt h.q, Nat.lt_of_lt_of_le h.lt hb.size⟩
theorem greatN {sh : List S71} {A0 : Option Addr} {c0 : Nat} {ts : List S65} {A1 : Option Addr} {c1 : Nat} {r : Int} (h : Ev fun k => ontimelaw12_Great.f k sh ts = some r) {w : World} (hA : AtP w sh A0 c0 ts A1 c1) :
    Calls Tryd.prog 45 #[.agg #[.slice A0 sh.length c0, .slice A1 ts.length c1]] w fun e w' => e = .returned (.int .i64 r) ∧ Below w.heap.size w w' := by
  obtain ⟨k, hk⟩ := h.ex
  exact ontimelaw12_Great.calls k A0 c0 sh A1 c1 ts r w hA.C0 hA.le0 hA.C1 hA.le1 hk
theorem notGreat.len {sh : List S71} {ts : List S65} (h : notGreat sh ts) : lenP sh ts := ⟨Nat.le_trans h.1 (by decide), fun t ht => ⟨Nat.le_trans (h.2.2 t ht).1 (by decide), Nat.le_trans (h.2.2 t ht).2.1 (by decide)⟩⟩
theorem notGreat.sz {sh : List S71} {ts : List S65} (h : notGreat sh ts) : ∀ t ∈ ts, szN t.f4 ≤ 1152921504606846976 := fun t ht => Nat.le_trans (h.2.2 t ht).2.2.1 (by decide)
set_option maxHeartbeats 8000000 in
set_option maxRecDepth 100000 in
theorem lawValid (sh : List S71) (A0 : Option Addr) (c0 : Nat) (ts : List S65) (A1 : Option Addr) (c1 : Nat) (sh2 : List S71) (B0 : Option Addr) (d0 : Nat) (ts2 : List S65) (B1 : Option Addr) (d1 : Nat) (w : World) (hT : TabOk w) (hok : okP sh ts) (hok2 : okP sh2 ts2) (hA : AtP w sh A0 c0 ts A1 c1) (hB : AtP w sh2 B0 d0 ts2 B1 d1) :
    Calls Tryd.prog 11 #[.agg #[.slice A0 sh.length c0, .slice A1 ts.length c1], .agg #[.slice B0 sh2.length d0, .slice B1 ts2.length d1]] w fun e w' => e = .returned (.bool true) ∧ Below w.heap.size w w' := by
  have h0 := Two.start w #[Value.slice A0 sh.length c0, .slice A1 ts.length c1] #[Value.slice B0 sh2.length d0, .slice B1 ts2.length d1] 50
  have HW := Aside0.mk (awake ((w.alloc (.cells #[.slice A0 sh.length c0, .slice A1 ts.length c1] 50)).alloc (.cells #[.slice B0 sh2.length d0, .slice B1 ts2.length d1] 50)) (hT.below h0.below))
  have H0 := Aside0.mk h0
  clear h0
  rcases great_ok sh ts with hg | ⟨hg, hn⟩
  · have HG := Aside0.mk (fun w' (h : Below w.heap.size w w') => greatN hg (hA.below h))
    clear hg hA hB hT hok hok2
    go_enter Tryd.func11, Tryd.ntmps11
    go_wp2_with fail
    refine HW.out.mono ?_
    rintro e w1 ⟨rfl, hB1⟩
    have H1 := Aside0.mk (H0.out.step hB1)
    have hp1 := H1.out.p
    have hq1 := H1.out.q
    clear hB1
    go_wp2_with fail
    refine (HG.out _ H1.out.below).mono ?_
    rintro e w2 ⟨rfl, hB2⟩
    have H2 := Aside0.mk (H1.out.step hB2)
    clear hB2 hp1 hq1
    go_wp2
    go_ret
    exact ⟨rfl, H2.out.below⟩
  rcases great_ok sh2 ts2 with hg2 | ⟨hg2, hn2⟩
  · have HG := Aside0.mk (fun w' (h : Below w.heap.size w w') => greatN hg (hA.below h))
    have HG2 := Aside0.mk (fun w' (h : Below w.heap.size w w') => greatN hg2 (hB.below h))
    clear hg hg2 hA hB hT hok hok2
    go_enter Tryd.func11, Tryd.ntmps11
    go_wp2_with fail
    refine HW.out.mono ?_
    rintro e w1 ⟨rfl, hB1⟩
    have H1 := Aside0.mk (H0.out.step hB1)
    have hp1 := H1.out.p
    have hq1 := H1.out.q
    clear hB1
    go_wp2_with fail
    refine (HG.out _ H1.out.below).mono ?_
    rintro e w2 ⟨rfl, hB2⟩
    have H2 := Aside0.mk (H1.out.step hB2)
    have hq2 := H2.out.q
    clear hB2 hp1 hq1
    go_wp2_with fail
    refine (HG2.out _ H2.out.below).mono ?_
    rintro e w3 ⟨rfl, hB3⟩
    have H3 := Aside0.mk (H2.out.step hB3)
    clear hB3 hq2
    go_wp2
    go_ret
    exact ⟨rfl, H3.out.below⟩
  have HG := Aside0.mk (fun w' (h : Below w.heap.size w w') => greatN hg (hA.below h))
  have HG2 := Aside0.mk (fun w' (h : Below w.heap.size w w') => greatN hg2 (hB.below h))
  have HV := Aside0.mk (fun w' (h : Below w.heap.size w w') => ValidN sh A0 c0 ts A1 c1 w' (hT.below h) hok hn.sz (hA.below h))
  have HR := Aside0.mk (fun w' (h : Below w.heap.size w w') => rValidN hok hn.sz (hA.below h))
  have HS := Aside0.mk (fun w' (h : Below w.heap.size w w') => SameN sh A0 c0 ts A1 c1 sh2 B0 d0 ts2 B1 d1 w' hn.len (hA.below h) (hB.below h))
  have HRS := Aside0.mk (fun w' (h : Below w.heap.size w w') => rSame sh A0 c0 ts A1 c1 sh2 B0 d0 ts2 B1 d1 w' hn.len (Nat.le_trans hn.2.1 (by decide)) hn.sz (hA.below h) (hB.below h))
  have HSP := Aside0.mk (fun w' (h : Below w.heap.size w w') => by
    have := SameN sh A0 c0 ts A1 c1 sh A0 c0 ts A1 c1 w' hn.len (hA.below h) (hA.below h)
    rwa [sameP_refl] at this)
  have HSQ := Aside0.mk (fun w' (h : Below w.heap.size w w') => by
    have := SameN sh2 B0 d0 ts2 B1 d1 sh A0 c0 ts A1 c1 w' hn2.len (hB.below h) (hA.below h)
    rwa [sameP_symm] at this)
  clear hg hg2 hA hB hT hok hok2 hn hn2
  generalize prgB sh ts = r1 at *
  generalize sameP sh sh2 ts ts2 = r2 at *
  go_enter Tryd.func11, Tryd.ntmps11
  go_wp2_with fail
  refine HW.out.mono ?_
  rintro e w1 ⟨rfl, hB1⟩
  have H1 := Aside0.mk (H0.out.step hB1)
  have hp1 := H1.out.p
  have hq1 := H1.out.q
  clear hB1
  go_wp2_with fail
  refine (HG.out _ H1.out.below).mono ?_
  rintro e w2 ⟨rfl, hB2⟩
  have H2 := Aside0.mk (H1.out.step hB2)
  have hq2 := H2.out.q
  clear hB2 hp1 hq1
  go_wp2_with fail
  refine (HG2.out _ H2.out.below).mono ?_
  rintro e w3 ⟨rfl, hB3⟩
  have H3 := Aside0.mk (H2.out.step hB3)
  clear hB3 hq2
  go_wp2
  refine wp_region_quiet (C := fun w' => Below w3.heap.size w3 w') (by kernel_rfl) (by kernel_rfl) ⟨rfl, rfl, rfl, Nat.le_refl _, fun _ _ => rfl⟩ ?_
  have HK := Aside0.mk (fun (w' : World) (hw' : Below w3.heap.size w3 w') => H3.out.step hw')
  iterate 29
    refine wpQuiet_step (fun K hK => ?_)
    rw [if_pos (by rfl)]
    first
      | (apply quiet_val
         intro w' hw'
         have hp := (HK.out w' hw').p
         have hq := (HK.out w' hw').q
         go_simp
         try exact rfl
         refine hK _ ?_)
      | (apply quiet_call
         intro w' hw'
         go_simp
         first | exact rfl | exact ⟨rfl, rfl⟩
         intro w' hw'
         with_reducible first
             | exact (HV.out w' (HK.out w' hw').below).mono fun e w'' ⟨he, hb⟩ => ⟨he, hw'.trans (hb.mono hw'.size)⟩
             | exact (HR.out w' (HK.out w' hw').below).mono fun e w'' ⟨he, hb⟩ => ⟨he, hw'.trans (hb.mono hw'.size)⟩
             | exact (HS.out w' (HK.out w' hw').below).mono fun e w'' ⟨he, hb⟩ => ⟨he, hw'.trans (hb.mono hw'.size)⟩
             | exact (HRS.out w' (HK.out w' hw').below).mono fun e w'' ⟨he, hb⟩ => ⟨he, hw'.trans (hb.mono hw'.size)⟩
             | exact (HSP.out w' (HK.out w' hw').below).mono fun e w'' ⟨he, hb⟩ => ⟨he, hw'.trans (hb.mono hw'.size)⟩
             | exact (HSQ.out w' (HK.out w' hw').below).mono fun e w'' ⟨he, hb⟩ => ⟨he, hw'.trans (hb.mono hw'.size)⟩
         refine hK _ ?_)
    clear hK K
    simp only [Act.put, List.setIfInBounds_toArray, List.set_cons_zero, List.set_cons_succ]
  refine wpQuiet_nil ?_
  intro w4 hB4
  have HB4 := Aside0.mk hB4
  clear hB4
  go_wp2
  go_ret
  exact ⟨rfl, H3.out.below.trans (HB4.out.mono H3.out.below.size)⟩
end Go.Proofs.YtmdbbfoejmakdaaDoor.Ha
