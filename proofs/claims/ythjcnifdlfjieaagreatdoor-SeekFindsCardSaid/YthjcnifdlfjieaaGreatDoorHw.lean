import Derived.Test.YthjcnifdlfjieaaGreatDoorHv
set_option linter.unusedVariables false
set_option linter.unusedSimpArgs false
namespace Go.Proofs.YthjcnifdlfjieaaGreatDoor.Hw
open Go.RowKit Go.Shelf Go.Proofs.YthjcnifdlfjieaaGreatDoorW.PrintWords Go.Proofs.YthjcnifdlfjieaaGreatDoor.Ha Go.Proofs.YthjcnifdlfjieaaGreatDoor.Hb Go.Proofs.YthjcnifdlfjieaaGreatDoor.Hc Go.Proofs.YthjcnifdlfjieaaGreatDoor.Hp Go.Proofs.YthjcnifdlfjieaaGreatDoor.Hd Go.Proofs.YthjcnifdlfjieaaGreatDoor.He Go.Proofs.YthjcnifdlfjieaaGreatDoor.Hf Go.Proofs.YthjcnifdlfjieaaGreatDoor.Hg Go.Proofs.YthjcnifdlfjieaaGreatDoor.Hh Go.Proofs.YthjcnifdlfjieaaGreatDoor.Hi Go.Proofs.YthjcnifdlfjieaaGreatDoor.Hm Go.Proofs.YthjcnifdlfjieaaGreatDoor.Hj Go.Proofs.YthjcnifdlfjieaaGreatDoor.Hk Go.Proofs.YthjcnifdlfjieaaGreatDoor.Hl Go.Proofs.YthjcnifdlfjieaaGreatDoor.Hn Go.Proofs.YthjcnifdlfjieaaGreatDoor.Ho Go.Proofs.YthjcnifdlfjieaaGreatDoor.Hq Go.Proofs.YthjcnifdlfjieaaGreatDoor.Hs Go.Proofs.YthjcnifdlfjieaaGreatDoor.Ht Go.Proofs.YthjcnifdlfjieaaGreatDoor.Hu Go.Proofs.YthjcnifdlfjieaaGreatDoor.Hv

set_option maxRecDepth 100000 in
set_option maxHeartbeats 4000000 in
theorem Swap0 (g d : Nat) (A : Option Addr) (f : Value) (l : List Int) (x : Int) (W : World) (h : QA g A d f l W) (hi : 0 < l.length) (hx : l[0] = x) :
    Calls Tryz.prog 160 #[ptr g, .int .i64 0, .int .i64 0] W fun e w' => (∃ v, e = .returned v) ∧ QA g A d f l w' ∧ Fr g A W w' := by
  obtain ⟨h1, h2⟩ := h
  obtain ⟨b, cur, rfl, _, hgb, hh, -⟩ := own_form h2 (by omega)
  have k0 : W.cell? ⟨g, 0, none⟩ = some (.slice (some ⟨b, 0, none⟩) l.length d) := blk_cell h1 0
  obtain ⟨ad, e, c1⟩ := cell_at h2 0 hi
  injection e with e
  subst e
  rw [hx] at c1
  rw [Addr.add_zero'] at c1
  have f1 := blk_frozen hh 0
  have hi1 : (0 : Int) < (l.length : Int) := by omega
  have hgb2 : g ≠ b := by rintro rfl; rw [h1] at hh; injection hh with hh; injection hh with _ hh; exact absurd hh (by decide)
  have H1 := Lib.hid h1; have H2 := Lib.hid h2
  have hls : l.set 0 x = l := by
    cases l with
    | nil => rfl
    | cons z l => simp at hx; subst hx; rfl
  have HL := Lib.hid hls
  clear h1 h2 hx hh hls
  go_enter Tryz.func160, Tryz.ntmps160
  go_wp2_with fail
  go_region
  all_goals
    go_wp2
    go_end0
    have o1 := own_setCell x H2.out hi
    rw [HL.out] at o1
    have o2 := own_setCell x o1 hi
    rw [HL.out] at o2
    refine ⟨⟨_, rfl⟩, ⟨?_, ?_⟩, (((Fr.refl g _ W).set (p := ⟨b, 0, none⟩) hgb (.inr rfl) _).set (p := ⟨b, 0, none⟩) hgb (.inr rfl) _).drew⟩
    · exact blk_drew (blk_far (blk_far H1.out (p := ⟨b, 0, none⟩) hgb2 _) (p := ⟨b, 0, none⟩) hgb2 _)
    · exact ⟨Kd.R_drew o2.out⟩

theorem asInt (x : Int) (W : World) : (Instr.typeAssert (.iface 3 (.int .i64 x)) 20 3 false).run Tryz.prog W = .ok (.int .i64 x) W := by kernel_rfl
set_option maxRecDepth 100000 in
set_option maxHeartbeats 4000000 in
theorem Push (g : Nat) (f : Value) (l : List Int) (x : Int) (W : World) (h : QS g f l W) (hl : l.length ≤ 1000) :
    Calls Tryz.prog 159 #[ptr g, .iface 3 (.int .i64 x)] W fun e w' => (∃ v, e = .returned v) ∧ QS g f (l ++ [x]) w' ∧ Below g W w' := by
  obtain ⟨A, d, h1, h2⟩ := h
  have k0 : W.cell? ⟨g, 0, none⟩ = some (.slice A l.length d) := blk_cell h1 0
  have kf := blk_frozen h1 0
  have kn := World.new_ne W _ k0
  have hgs : g < W.heap.size := blk_lt h1
  have H1 := Lib.hid h1; have H2 := Lib.hid h2
  have ta := asInt x
  clear h1 h2
  go_enter Tryz.func159, Tryz.ntmps159
  go_wp2_with fail
  go_region_law (first
    | (refine Kd.R_append_step KI (w0 := W) (W := W.drew) g (by rfl) (.tmp 8) (.tmp 11) 22 3 (.int .i64 0) 8 rfl Tryz.underlying22 info_int rfl (by decide) (by omega) (.slice A l.length d) l x [.int .i64 x] (fun _ => True) (fun _ => False) rfl rfl ?aP (fun _ hk => hk.elim) (fun _ _ => trivial) ?aO ?aB ?aS ?aL ?_
       (case aP => exact rfl)
       (case aO => exact Kd.R_drew H2.out.out)
       (case aB => exact (Below.refl g W).drew)
       (case aS => exact Nat.le_of_lt hgs)
       (case aL => omega)
       intro v1 w7 hR hb7 hg7 _
       obtain ⟨A7, c7, e7, -⟩ := (Ow.mk hR).row
       subst e7
       have HO7 := Lib.hid (Ow.mk hR)
       have HB7 := Lib.hid hb7
       have hbox7 := Lib.hid (blk_grown (blk_drew H1.out) hg7 (Kd.R_ne H2.out.out H1.out (by decide)))
       have kf7 := blk_frozen hbox7.out 0
       have kc7 : w7.cell? ⟨g, 0, none⟩ = some (.slice A l.length d) := blk_cell hbox7.out 0
       clear hR hb7 hg7))
  all_goals
    go_wp2
    go_end0
    have e : (l ++ [x]).length = l.length + 1 := by simp
    have o := HO7.out.set hbox7.out (by decide) 0 (.slice A7 (l.length + 1) c7)
    rw [e] at o
    refine ⟨⟨_, rfl⟩, ⟨A7, c7, ?_, ?_⟩, HB7.out.setCell (p := ⟨g, 0, none⟩) (Nat.le_refl _) _⟩
    · rw [e]; exact blk_set hbox7.out 0 _
    · rw [e]; exact o

theorem own_take {g m c : Nat} {A : Option Addr} {l : List Int} {W : World} (h : Ow KI 3 g (.slice A l.length c) l W) (hl : l.length = m + 1) : Ow KI 3 g (.slice A m c) (l.take m) W := by
  obtain ⟨b, cur, rfl, _, hb, hh, h1, h2, h3, h4⟩ := own_form h (by omega)
  have e : (l.take m).length = m := by simp; omega
  refine ⟨Kd.R_of_own ?_ (fun _ _ => trivial)⟩
  rw [e]
  refine ⟨by rw [encs_length, e, Nat.mul_one], .inr ⟨b, c, cur, rfl, hb, hh, by omega, h2, h3, ?_⟩⟩
  have e2 : encs (Value.int .i64) (l.take m) = (encs (Value.int .i64) l).take m := by simp [encs, List.map_take]
  rw [e2, ← h4, List.take_take, Nat.mul_one, Nat.mul_one]
  congr 1; omega

set_option maxRecDepth 100000 in
set_option maxHeartbeats 4000000 in
theorem Pop (g d : Nat) (A : Option Addr) (f : Value) (l : List Int) (m : Nat) (x : Int) (W : World) (h : QA g A d f l W) (hl : l.length = m + 1) (hx : l[m]'(by omega) = x) (hm : m ≤ 1000) :
    Calls Tryz.prog 158 #[ptr g] W fun e w' => e = .returned (.iface 3 (.int .i64 x)) ∧ QA g A d f (l.take m) w' ∧ Fr g A W w' := by
  obtain ⟨h1, h2⟩ := h
  obtain ⟨b, cur, rfl, _, _, _, hcd, _⟩ := own_form h2 (by omega)
  obtain ⟨ad, e, c1⟩ := cell_at h2 m (by omega)
  injection e with e
  subst e
  rw [hx] at c1
  have ei : (⟨b, 0, none⟩ : Addr).add m = ⟨b, m, none⟩ := by unfold Addr.add; split <;> simp_all
  rw [ei] at c1
  have hT := Lib.hid (own_take h2 hl)
  have hwm : IntKind.i64.wrap (m : Int) = m := by rw [IntKind.wrap_i64]; omega
  have hwm2 : IntKind.i64.wrap ((m : Int) + 1 - 1) = m := by rw [IntKind.wrap_i64]; omega
  rw [hl] at h1 hcd
  have k0 : W.cell? ⟨g, 0, none⟩ = some (.slice (some ⟨b, 0, none⟩) (m + 1) d) := blk_cell h1 0
  have kf := blk_frozen h1 0
  obtain ⟨i0, hi0, _, hsz, _⟩ := int_info
  have hcut := cut_to (P := Tryz.prog) 22 3 .i64 Tryz.underlying22 hi0 (some ⟨b, 0, none⟩) (m + 1) d (m : Int) (by omega) (by omega) hcd
  rw [Int.toNat_natCast] at hcut
  have H1 := Lib.hid h1
  have hm0 : (0 : Int) ≤ (m : Int) := Int.natCast_nonneg _
  have hm1 : (m : Int) < ((m : Int) + 1) := by omega
  clear h1 h2 hx hi0 hsz
  go_enter Tryz.func158, Tryz.ntmps158
  go_wp2_with fail
  go_region
  all_goals
    go_wp2_with fail
    go_region
    all_goals
      go_wp2
      go_ret
      have e : (l.take m).length = m := by simp; omega
      refine ⟨rfl, ⟨?_, ?_⟩, ((Fr.refl g _ W).set (p := ⟨g, 0, none⟩) (Nat.le_refl _) (.inl rfl) _).drew.drew⟩
      · rw [e]; exact blk_drew (blk_drew (blk_set H1.out 0 _))
      · rw [e]; exact ⟨Kd.R_drew (Kd.R_drew (hT.out.set H1.out (by decide) 0 _).out)⟩
end Go.Proofs.YthjcnifdlfjieaaGreatDoor.Hw
