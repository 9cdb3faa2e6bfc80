import Derived.Test.YthjcnifdlfjieaaGreatDoorHh
set_option linter.unusedVariables false
set_option linter.unusedSimpArgs false
namespace Go.Proofs.YthjcnifdlfjieaaGreatDoor.Hi
open Go.RowKit Go.Shelf Go.Proofs.YthjcnifdlfjieaaGreatDoorW.PrintWords Go.Proofs.YthjcnifdlfjieaaGreatDoor.Ha Go.Proofs.YthjcnifdlfjieaaGreatDoor.Hb Go.Proofs.YthjcnifdlfjieaaGreatDoor.Hc Go.Proofs.YthjcnifdlfjieaaGreatDoor.Hp Go.Proofs.YthjcnifdlfjieaaGreatDoor.Hd Go.Proofs.YthjcnifdlfjieaaGreatDoor.He Go.Proofs.YthjcnifdlfjieaaGreatDoor.Hf Go.Proofs.YthjcnifdlfjieaaGreatDoor.Hg Go.Proofs.YthjcnifdlfjieaaGreatDoor.Hh

theorem SameS (A : Option Addr) (c : Nat) (l : List Int) (B : Option Addr) (d : Nat) (m : List Int) (w : World) (hr : Kd.C (Kd.int .i64) w A l.length l) (hc : l.length ≤ c) (hs : Kd.C (Kd.int .i64) w B m.length m) (hd : m.length ≤ d) :
    Calls Tryz.prog 35 #[.slice A l.length c, .slice B m.length d] w fun e w' => e = .returned (.bool (tt (l = m))) ∧ Below w.heap.size w w' := by
  have c1 := Lib.hid (Equal_int A c l B d m w hr hc hs hd)
  clear hr hs
  go_enter Tryz.func35, Tryz.ntmps35
  go_wp2_with fail
  refine c1.out.mono ?_
  rintro e w1 ⟨rfl, hb⟩
  have HB := Lib.hid hb; clear hb
  go_wp2
  go_ret
  exact ⟨rfl, HB.out⟩

theorem V_eq {x y : V} : x = y ↔ x.sh = y.sh ∧ x.el = y.el := by
  cases x; cases y; simp

set_option maxHeartbeats 2000000 in
theorem SameV (u v : Value) (x y : V) (w : World) (hu : IsVal w u x) (hv : IsVal w v y) :
    Calls Tryz.prog 12 #[u, v] w fun e w' => e = .returned (.bool (tt (x = y))) ∧ Below w.heap.size w w' := by
  obtain ⟨a, b, rfl, ⟨A, c, rfl, hc, hr⟩, ⟨B, d, rfl, hd, hs⟩⟩ := hu
  obtain ⟨a2, b2, rfl, ⟨A2, c2, rfl, hc2, hr2⟩, ⟨B2, d2, rfl, hd2, hs2⟩⟩ := hv
  have hW := below_alloc (below_alloc (Below.refl w.heap.size w) (.cells #[.slice A x.sh.length c, .slice B x.el.length d] 25)) (.cells #[.slice A2 y.sh.length c2, .slice B2 y.el.length d2] 25)
  have c1 := Lib.hid (SameS A c x.sh A2 c2 y.sh _ (Kd.C_below hr hW) hc (Kd.C_below hr2 hW) hc2)
  have c2' := Lib.hid (fun w1 (h : Below w.heap.size w w1) => Equal_str B d x.el B2 d2 y.el w1 (Kd.C_below hs h) hd (Kd.C_below hs2 h) hd2)
  have b0 := Lib.hid (blk_alloc (blk_new w (.cells #[.slice A x.sh.length c, .slice B x.el.length d] 25)) (.cells #[.slice A2 y.sh.length c2, .slice B2 y.el.length d2] 25))
  have b1 := Lib.hid (blk_new (w.alloc (.cells #[.slice A x.sh.length c, .slice B x.el.length d] 25)) (.cells #[.slice A2 y.sh.length c2, .slice B2 y.el.length d2] 25))
  rw [World.size_alloc] at b1
  have HW := Lib.hid hW
  clear hr hr2 hs hs2 hW
  by_cases h1 : x.sh = y.sh
  · have e1 := tt_yes h1
    rw [e1] at c1
    have hq : Hid (tt (x.el = y.el) = tt (x = y)) := by
      by_cases h2 : x.el = y.el
      · show _ = _; rw [tt_yes h2, tt_yes (V_eq.2 ⟨h1, h2⟩)]
      · show _ = _; rw [tt_no h2, tt_no (fun h => h2 (V_eq.1 h).2)]
    clear e1
    have H1 := Lib.hid h1; clear h1
    go_enter Tryz.func12, Tryz.ntmps12
    go_wp2_with fail
    refine c1.out.mono ?_
    rintro e w1 ⟨rfl, hb⟩
    have k0 : w1.cell? ⟨w.heap.size, 1, none⟩ = some (.slice B x.el.length d) := blk_cell (blk_below b0.out hb) 1
    have k1 : w1.cell? ⟨w.heap.size + 1, 1, none⟩ = some (.slice B2 y.el.length d2) := blk_cell (blk_below b1.out hb) 1
    have HB := Lib.hid (HW.out.trans (hb.mono HW.out.size))
    clear hb
    go_wp2_with fail
    refine (c2'.out _ HB.out).mono ?_
    rintro e w2 ⟨rfl, hb⟩
    have HB2 := Lib.hid (HB.out.trans (hb.mono HB.out.size))
    clear hb
    go_wp2
    go_ret
    exact ⟨ret_bool hq.out, HB2.out⟩
  · have e1 := tt_no h1
    have hq := Lib.hid (tt_no (fun h : x = y => h1 (V_eq.1 h).1))
    rw [e1] at c1
    clear e1 h1
    go_enter Tryz.func12, Tryz.ntmps12
    go_wp2_with fail
    refine c1.out.mono ?_
    rintro e w1 ⟨rfl, hb⟩
    have HB := Lib.hid (HW.out.trans (hb.mono HW.out.size))
    clear hb
    go_wp2
    go_ret
    exact ⟨ret_bool hq.out.symm, HB.out⟩

def fewF (x : V) : Bool := decide (x.el.length ≤ 300) && decide (x.sh.length ≤ 20) && x.el.all (fun s => decide (s.size ≤ 120))
theorem few_upto (l : List ByteArray) (k : Nat) (h : ∀ j (hj : j < l.length), j < k → l[j].size ≤ 120) (hk : l.length ≤ k) : l.all (fun s => decide (s.size ≤ 120)) = true := by
  rw [List.all_eq_true]
  intro s hs
  obtain ⟨j, hj, rfl⟩ := List.getElem_of_mem hs
  simpa using h j hj (by omega)

theorem few_next (l : List ByteArray) (k : Nat) (hlt : k < l.length) (h : ∀ j (hj : j < l.length), j < k → l[j].size ≤ 120) (hk : l[k].size ≤ 120) : ∀ j (hj : j < l.length), j < k + 1 → l[j].size ≤ 120 := fun j hj hjk => by
  rcases Nat.lt_or_ge j k with h1 | h1
  · exact h j hj h1
  · obtain rfl : j = k := by omega
    exact hk

theorem few_big (x : V) (k : Nat) (hlt : k < x.el.length) (h : ¬ x.el[k].size ≤ 120) : fewF x = false := by
  unfold fewF
  rw [Bool.and_eq_false_iff]; right
  rw [List.all_eq_false]
  exact ⟨x.el[k], List.getElem_mem _, by simpa using h⟩
theorem few_long (x : V) (h : ¬ x.el.length ≤ 300) : fewF x = false := by unfold fewF; simp [h]
theorem few_wide (x : V) (h : ¬ x.sh.length ≤ 20) : fewF x = false := by unfold fewF; simp [h]
theorem few_yes (x : V) (h : x.el.length ≤ 300) (h2 : x.sh.length ≤ 20) (h3 : x.el.all (fun s => decide (s.size ≤ 120)) = true) : fewF x = true := by unfold fewF; simp only [h, h2, h3]; rfl
set_option maxHeartbeats 2000000 in
theorem Few (u : Value) (x : V) (w : World) (hu : IsVal w u x) :
    Calls Tryz.prog 6 #[u] w fun e w' => e = .returned (.bool (fewF x)) ∧ Below w.heap.size w w' := by
  obtain ⟨a, b, rfl, ⟨A, c, rfl, hc, hr⟩, ⟨B, d, rfl, hd, hs⟩⟩ := hu
  have HS := Lib.hid (Kd.C_below hs (below_alloc (Below.refl w.heap.size w) (.cells #[.slice A x.sh.length c, .slice B x.el.length d] 25)))
  have HL : x.el.length ≤ 9223372036854775807 := hs.2.1
  have HL2 : x.sh.length ≤ 9223372036854775807 := hr.2.1
  have HB := Lib.hid (below_alloc (Below.refl w.heap.size w) (.cells #[.slice A x.sh.length c, .slice B x.el.length d] 25))
  clear hr hs
  go_enter Tryz.func6, Tryz.ntmps6
  go_wp2
  go_loop [3] (fun i => ∃ k : Nat, k ≤ x.el.length ∧ k ≤ 301 ∧ i = .int .i64 k ∧ Hid (∀ j (hj : j < x.el.length), j < k → x.el[j].size ≤ 120)) (fun i => x.el.length - (intOf i).toNat)
  case atStart => exact ⟨0, Nat.zero_le _, by omega, rfl, fun j _ h => absurd h (by omega)⟩
  case round =>
    obtain ⟨k, hk, hk3, rfl, hi⟩ := hrel
    by_cases hlt : k < x.el.length ∧ k < 301
    · obtain ⟨hlt, hlt2⟩ := hlt
      obtain ⟨ad, hA, hcell⟩ := C_cell HS.out k hlt
      subst hA
      have hd1 : decide (k < x.el.length) = true := by simpa using hlt
      have hd2 : decide ((k : Int) < 301) = true := by simp; omega
      have hd3 : decide (k < 301) = true := by simp; omega
      obtain ⟨s, hs⟩ : ∃ s, x.el[k] = s := ⟨_, rfl⟩
      rw [hs] at hcell
      have HSs := Lib.hid hs
      clear hs
      by_cases hbig : s.size ≤ 120
      · have hi2 := Lib.hid (few_next x.el k hlt hi.out (by rw [HSs.out]; exact hbig))
        have hb1 : (s.size : Int) ≤ 120 := by omega
        have hb2 : decide (120 < (s.size : Int)) = false := by simp; omega
        clear hi hbig
        go_wp2
        exact ⟨⟨k + 1, by omega, by omega, by go_num, hi2.out⟩, by simp [intOf]; omega⟩
      · have hq := Lib.hid (few_big x k hlt (by rw [HSs.out]; exact hbig))
        have hb2 : decide (120 < (s.size : Int)) = true := by simp; omega
        have hb1 : 120 < (s.size : Int) := by omega
        clear hi hbig
        go_wp2
        go_ret
        exact ⟨ret_bool hq.out.symm, HB.out⟩
    · by_cases hlt1 : k < x.el.length
      · have hd1 : decide (k < x.el.length) = true := by simpa using hlt1
        have hd2 : decide ((k : Int) < 301) = false := by simp; omega
        have hd3 : decide (k < 301) = false := by simp; omega
        have hq := Lib.hid (few_long x (by omega))
        have h300 : decide ((x.el.length : Int) ≤ 300) = false := by simp; omega
        clear hlt hi
        go_wp2
        all_goals go_ret
        all_goals exact ⟨ret_bool hq.out.symm, HB.out⟩
      · have hd1 : decide (k < x.el.length) = false := by simpa using hlt1
        have hall := Lib.hid (few_upto x.el k hi.out (by omega))
        by_cases h3 : x.el.length ≤ 300
        · have h300 : decide ((x.el.length : Int) ≤ 300) = true := by simp; omega
          by_cases h20 : x.sh.length ≤ 20
          · have hq := Lib.hid (few_yes x h3 h20 hall.out)
            have hdd : decide ((x.sh.length : Int) ≤ 20) = true := by simp; omega
            clear hlt hi
            go_wp2
            all_goals go_ret
            all_goals exact ⟨ret_bool hq.out.symm, HB.out⟩
          · have hq := Lib.hid (few_wide x h20)
            have hdd : decide ((x.sh.length : Int) ≤ 20) = false := by simp; omega
            clear hlt hi
            go_wp2
            all_goals go_ret
            all_goals exact ⟨ret_bool hq.out.symm, HB.out⟩
        · have hq := Lib.hid (few_long x h3)
          have h300 : decide ((x.el.length : Int) ≤ 300) = false := by simp; omega
          clear hlt hi
          go_wp2
          all_goals go_ret
          all_goals exact ⟨ret_bool hq.out.symm, HB.out⟩
end Go.Proofs.YthjcnifdlfjieaaGreatDoor.Hi
