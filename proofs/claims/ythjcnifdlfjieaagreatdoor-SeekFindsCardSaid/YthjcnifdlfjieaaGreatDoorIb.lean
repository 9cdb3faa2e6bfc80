import Derived.Test.YthjcnifdlfjieaaGreatDoorIa
import Derived.Deep.RegionHeldLaw
import Derived.Lib.SlBuf
set_option linter.unusedVariables false
set_option linter.unusedSimpArgs false
namespace Go.Proofs.YthjcnifdlfjieaaGreatDoor.Ib
open Go.RowKit Go.Shelf Go.Proofs.YthjcnifdlfjieaaGreatDoorW.PrintWords Go.Proofs.YthjcnifdlfjieaaGreatDoor.Ha Go.Proofs.YthjcnifdlfjieaaGreatDoor.Hb Go.Proofs.YthjcnifdlfjieaaGreatDoor.Hc Go.Proofs.YthjcnifdlfjieaaGreatDoor.Hp Go.Proofs.YthjcnifdlfjieaaGreatDoor.Hd Go.Proofs.YthjcnifdlfjieaaGreatDoor.He Go.Proofs.YthjcnifdlfjieaaGreatDoor.Hf Go.Proofs.YthjcnifdlfjieaaGreatDoor.Hg Go.Proofs.YthjcnifdlfjieaaGreatDoor.Hh Go.Proofs.YthjcnifdlfjieaaGreatDoor.Hi Go.Proofs.YthjcnifdlfjieaaGreatDoor.Hm Go.Proofs.YthjcnifdlfjieaaGreatDoor.Hj Go.Proofs.YthjcnifdlfjieaaGreatDoor.Hk Go.Proofs.YthjcnifdlfjieaaGreatDoor.Hl Go.Proofs.YthjcnifdlfjieaaGreatDoor.Hn Go.Proofs.YthjcnifdlfjieaaGreatDoor.Ho Go.Proofs.YthjcnifdlfjieaaGreatDoor.Hq Go.Proofs.YthjcnifdlfjieaaGreatDoor.Hs Go.Proofs.YthjcnifdlfjieaaGreatDoor.Ht Go.Proofs.YthjcnifdlfjieaaGreatDoor.Hu Go.Proofs.YthjcnifdlfjieaaGreatDoor.Hv Go.Proofs.YthjcnifdlfjieaaGreatDoor.Hw Go.Proofs.YthjcnifdlfjieaaGreatDoor.Hx Go.Proofs.YthjcnifdlfjieaaGreatDoor.Hy Go.Proofs.YthjcnifdlfjieaaGreatDoor.Ia

/-- copy(v[k:], ys), v a row of numbers of one's own. -/
theorem copy_at {P : Program} (W : World) (base g n cap k : Nat) (t t' e ty : TypeId) (ht : P.underlying t = some (.slice e)) (hinfo : (P.info? e).map (·.size) = some 1)
    (xs ys : List Int) (hn : xs.length = n) (A : Option Addr) (m c : Nat) (HO : Ow KI e base (.slice (some ⟨g, 0, none⟩) n cap) xs W) (HR : Kd.C KI W A m ys) (hk : k ≤ n) :
    ∃ w1, (Builtin.copy_ #[t, t'] ty #[.slice (some ⟨g, k, none⟩) (n - k) (cap - k), .slice A m c]).run P W = .ok (goInt ((min m (n - k) : Nat) : Int)) w1 ∧ Ow KI e base (.slice (some ⟨g, 0, none⟩) n cap) (xs.take k ++ ys.take (min m (n - k)) ++ xs.drop (k + min m (n - k))) w1 ∧ W.grownBy w1 (some g) := by
  have hR := Kd.reads_of_C (d := (0 : Int)) HR
  have hm : ys.length = m := hR.1
  have hown := Kd.own_of_R HO.out
  obtain ⟨q, hq⟩ : ∃ q, min m (n - k) = q := ⟨_, rfl⟩
  rw [hq]
  rcases Nat.eq_zero_or_pos q with h0 | hp
  · subst h0
    refine ⟨W, ?_, ?_, World.grownBy.refl W _⟩
    · exact run_copy_none W t t' ty e (some ⟨g, k, none⟩) A (n - k) (cap - k) m c ht hinfo hq
    · rw [List.take_zero, List.append_nil, Nat.add_zero, List.take_append_drop]; exact HO
  · obtain ⟨ad, hA, hc⟩ := hR.2.2 (by omega)
    subst hA
    rcases hown.2 with ⟨he, hx0⟩ | ⟨g', cap', cur, hv, hb, hh, hnc, hcm, hcs, htake⟩
    · omega
    injection hv with hv1 hv2 hv3
    injection hv1 with hv1
    injection hv1 with hv1
    subst hv1 hv3
    have hsrc : ∀ j u, (encs (Value.int .i64) (ys.take q))[j]? = some u → W.cell? (ad.add j) = some u := by
      intro j u hu
      have hj : j < (ys.take q).length := by
        rcases Nat.lt_or_ge j (ys.take q).length with h | h
        · exact h
        · rw [List.getElem?_eq_none (by rw [encs_length]; exact h)] at hu
          cases hu
      have hjm : j < q := by rw [List.length_take] at hj; omega
      rw [encs_get (d := (0 : Int)) _ j hj] at hu
      rw [hc j (by omega), ← hu]
      simp [List.getD_eq_getElem?_getD, hjm]
    have hkl : (encs (Value.int .i64) (ys.take q)).length = q := by rw [encs_length, List.length_take]; omega
    have hr := run_copy_cells (P := P) W t t' ty e g k (n - k) (cap - k) ad m c (encs (Value.int .i64) (ys.take q)) ht hinfo (by rw [hkl]; exact hq.symm) hsrc
      (fun j hj => by rw [cell_of_row W g _ cur e (0, 0) hh]; simp; omega) (fun j _ => blk_frozen hh _) (by intro u hu; simp only [encs, List.mem_map] at hu; obtain ⟨q, _, rfl⟩ := hu; rfl)
    obtain ⟨cur', h3, h4, h5⟩ := setCells_row (encs (Value.int .i64) (ys.take q)) k W cur hh (by rw [hkl]; omega)
    obtain ⟨s1, s2, s3, s4⟩ := setCells_same g (encs (Value.int .i64) (ys.take q)) k W
    refine ⟨_, by rw [hr, hkl], ⟨Kd.R_of_own ?_ HO.out.1⟩, ⟨s1, s2, s3, by rw [s4]; exact Nat.le_refl _, fun j _ hj => setCells_far _ _ j (fun he => hj (by rw [he]))⟩⟩
    have hln : (xs.take k ++ ys.take q ++ xs.drop (k + q)).length = n := by
      rw [List.length_append, List.length_append, List.length_take, List.length_take, List.length_drop]
      omega
    rw [hln]
    refine ⟨by rw [encs_length, hln, Nat.mul_one], .inr ⟨g, cap, cur', rfl, hb, h3, by omega, hcm, by rw [h4, hcs], ?_⟩⟩
    have htk : cur.toList.take n = encs (Value.int .i64) xs := by rw [← htake, Nat.mul_one, hn]
    have e1 : cur.toList.take k = encs (Value.int .i64) (xs.take k) := by
      have : encs (Value.int .i64) (xs.take k) = (encs (Value.int .i64) xs).take k := by simp [encs, List.map_take]
      rw [this, ← htk, List.take_take]; congr 1; omega
    rw [h5, Nat.mul_one, hkl, encs_append, encs_append]
    have e2 : encs (Value.int .i64) (xs.drop (k + q)) = (cur.toList.drop (k + q)).take (n - (k + q)) := by
      have : encs (Value.int .i64) (xs.drop (k + q)) = (encs (Value.int .i64) xs).drop (k + q) := by simp [encs, List.map_drop]
      rw [this, ← htk, List.drop_take]
    rw [e1, e2]
    have hl1 : (encs (Value.int .i64) (xs.take k)).length = k := by rw [encs_length, List.length_take]; omega
    rw [List.take_append, List.take_of_length_le (by rw [List.length_append, hl1, hkl]; omega), List.length_append, hl1, hkl]

theorem rep_step (i : Int) (n m : Nat) (hm : m ≤ n) : (List.replicate m i ++ List.replicate (n - m) 0).take m ++ (List.replicate m i).take (min m (n - m)) ++ (List.replicate m i ++ List.replicate (n - m) 0).drop (m + min m (n - m)) = List.replicate (m + min m (n - m)) i ++ List.replicate (n - (m + min m (n - m))) 0 := by
  obtain ⟨q, hq⟩ : ∃ q, min m (n - m) = q := ⟨_, rfl⟩
  rw [hq]
  have h1 : (List.replicate m i ++ List.replicate (n - m) 0).take m = List.replicate m i := by
    rw [List.take_append_of_le_length (by simp)]; simp
  have h2 : (List.replicate m i ++ List.replicate (n - m) (0 : Int)).drop (m + q) = List.replicate (n - (m + q)) 0 := by
    rw [← List.drop_drop, List.drop_append_of_le_length (by simp)]
    simp; omega
  rw [h1, h2, List.take_replicate, show min q m = q by omega, List.replicate_append_replicate]
theorem rep_first (i : Int) (n : Nat) : (List.replicate n (0 : Int)).take 0 ++ [i].take (min 1 (n - 0)) ++ (List.replicate n (0 : Int)).drop (0 + min 1 (n - 0)) = List.replicate (min 1 n) i ++ List.replicate (n - min 1 n) 0 := by
  cases n with
  | zero => rfl
  | succ n => simp [Nat.min_def]

theorem mul_one_ (n : Nat) (hn : n ≤ 4294967295) (w : World) : Calls Tryz.prog 76 #[.int .u64 1, .int .u64 (n : Int)] w fun e w' => e = .returned (.tuple #[.int .u64 0, .int .u64 (n : Int)]) ∧ w = w' :=
  (Tryz.bits_Mul 1 n (by omega) (by omega) w).mono fun e w' ⟨he, hw⟩ => ⟨by rw [he, show 1 * n / 18446744073709551616 = 0 by omega, show 1 * n % 18446744073709551616 = n by omega]; rfl, hw.symm⟩
theorem own_form0 {g n c : Nat} {A : Option Addr} {l : List Int} {W : World} (h : Ow KI 3 g (.slice A n c) l W) (hob : ∃ b, (Value.slice A n c).ownBlock = some b) : ∃ b, A = some ⟨b, 0, none⟩ ∧ g ≤ b ∧ n = l.length ∧ n ≤ c := by
  obtain ⟨h0, hr⟩ := Kd.own_of_R h.out
  rcases hr with ⟨e, _⟩ | ⟨b, cap, cur, e, hb, hh, h1, _⟩
  · obtain ⟨b, hb⟩ := hob
    rw [e] at hb
    simp [Value.ownBlock] at hb
  · injection e with e1 e2 e3
    subst e1 e2 e3
    exact ⟨b, rfl, hb, rfl, h1⟩

set_option maxRecDepth 100000 in
set_option maxHeartbeats 4000000 in
theorem Repeat1 (A : Option Addr) (c : Nat) (i : Int) (n : Nat) (w : World) (hr : Kd.C KI w A 1 [i]) (hn : n ≤ 4294967295) :
    Calls Tryz.prog 47 #[.slice A 1 c, .int .i64 (n : Int)] w fun e w' => ∃ v, e = .returned v ∧ Ow KI 3 w.heap.size v (List.replicate n i) w' ∧ Below w.heap.size w w' := by
  have HR := Lib.hid hr
  have hn0 : (0 : Int) ≤ (n : Int) := Int.natCast_nonneg _
  have hn1 : (n : Int) ≤ 4294967295 := by omega
  obtain ⟨i0, hi0, hz0, hsz, hby⟩ := int_info
  have HI : Hid ((Tryz.prog.info? 3).map (·.size) = some 1) := by show _ = _; rw [hi0]; simp [hsz]
  have hdn : decide ((n : Int) < 0) = false := by simp
  have hkw : IntKind.u64.wrap (n : Int) = n := by rw [IntKind.wrap_u64]; omega
  have hkw2 : IntKind.i64.wrap (n : Int) = n := by rw [IntKind.wrap_i64]; omega
  clear hr hi0 hz0 hsz hby
  go_enter Tryz.func47, Tryz.ntmps47
  go_wp2_with fail
  refine (mul_one_ n hn _).mono ?_
  rintro e w1 ⟨rfl, hw⟩
  subst hw
  go_wp2_with (at_make; go_must (refine Kd.R_make KI (w0 := w) w.heap.size 3 rfl rfl 22 (.tmp 29) (.tmp 29) rfl (n : Int) rfl rfl Tryz.underlying22 (.int .i64 0) 8 info_int rfl (by decide) (by decide) (0 : Int) (ok := fun _ => True) (okp := fun _ => False) rfl (fun _ _ => trivial) trivial (by omega) (by omega) (Below.refl _ _) (Nat.le_refl _) ?_); intro v1 w3 hR hb3 hg3 hob; obtain ⟨A3, c3, e3, -⟩ := (Ow.mk hR).row; rw [List.length_replicate, Int.toNat_natCast] at e3; subst e3; have HR3 := Lib.hid (Ow.mk hR); have HB3 := Lib.hid hb3; have HOB := Lib.hid hob; clear hR hb3 hg3 hob)
  obtain ⟨b, rfl, hwb, -, hnc⟩ := own_form0 HR3.out (by obtain ⟨b, hb, _⟩ := HOB.out; exact ⟨b, hb⟩)
  obtain ⟨w4, hr4, ho4, hg4⟩ := copy_at (P := Tryz.prog) w3 w.heap.size b n c3 0 22 22 3 3 Tryz.underlying22 HI.out _ [i] (by simp) A 1 c HR3.out (Kd.C_below HR.out HB3.out) (Nat.zero_le _)
  rw [Int.toNat_natCast, rep_first] at ho4
  simp only [Nat.sub_zero] at hr4
  have hq1 : min 1 n ≤ n := by omega
  have hq2 : n = 0 ∨ 0 < min 1 n := by omega
  obtain ⟨q, hq⟩ : ∃ q, min 1 n = q := ⟨_, rfl⟩
  rw [hq] at hr4 ho4 hq1 hq2
  have HR4 := Lib.hid hr4; have HO4 := Lib.hid ho4
  have HB4 := Lib.hid (HB3.out.grown hg4 HB3.out.size (fun k hk => by cases hk; exact hwb))
  clear hr4 ho4 hg4 hq HR3 HB3 HOB
  have hr4 := HR4.out
  rw [hr4]
  go_simp
  go_wp2_with fail
  clear hr4
  go_loopw [8] (fun v W => ∃ m : Nat, m ≤ n ∧ v = .int .i64 (m : Int) ∧ (n = 0 ∨ 0 < m) ∧ Hid (Ow KI 3 w.heap.size (.slice (some ⟨b, 0, none⟩) n c3) (List.replicate m i ++ List.replicate (n - m) 0) W) ∧ Hid (Below w.heap.size w W)) (fun v _ => n - (intOf v).toNat)
  case atStart => exact ⟨q, hq1, rfl, hq2, HO4.out, HB4.out⟩
  case round =>
    obtain ⟨m, hm, rfl, hm0, ho, hb⟩ := hrel
    by_cases hlt : m < n
    · have hd : decide (m < n) = true := by simpa using hlt
      have hd2 : decide ((m : Int) < (n : Int)) = true := by simp; omega
      obtain ⟨i0, hi0, hz0, hsz, hby⟩ := int_info
      have hcf := cut_from (P := Tryz.prog) 22 3 .i64 Tryz.underlying22 hi0 1 hsz (some ⟨b, 0, none⟩) n c3 (m : Int) (by omega) (by omega)
      have hct := cut_to (P := Tryz.prog) 22 3 .i64 Tryz.underlying22 hi0 (some ⟨b, 0, none⟩) n c3 (m : Int) (by omega) (by omega) hnc
      have ea : (⟨b, 0, none⟩ : Addr).add m = ⟨b, m, none⟩ := by unfold Addr.add; split <;> simp_all
      rw [Int.toNat_natCast, if_neg (by omega), Option.map_some, Nat.mul_one, ea] at hcf
      rw [Int.toNat_natCast] at hct
      have hrl : (List.replicate m i ++ List.replicate (n - m) 0).length = n := by simp; omega
      have hC := (Ow.mk (Kd.R_take ho.out.out (m := m) (by rw [hrl]; omega))).row
      have htk : (List.replicate m i ++ List.replicate (n - m) (0 : Int)).take m = List.replicate m i := by
        rw [List.take_append_of_le_length (by simp)]; simp
      rw [htk] at hC
      obtain ⟨A5, c5, e5, hc5, hC⟩ := hC
      injection e5 with e5a e5b e5c
      subst e5a e5c
      rw [List.length_replicate] at hC
      obtain ⟨w5, hr5, ho5, hg5⟩ := copy_at (P := Tryz.prog) wr.drew w.heap.size b n c3 m 22 22 3 3 Tryz.underlying22 HI.out _ _ hrl (some ⟨b, 0, none⟩) m c3 ⟨Kd.R_drew ho.out.out⟩ (Kd.C_drew hC) hm
      rw [rep_step i n m hm] at ho5
      obtain ⟨p, hp⟩ : ∃ p, min m (n - m) = p := ⟨_, rfl⟩
      have hp0 : 0 < p := by omega
      have hp1 : m + p ≤ n := by omega
      have hwp : IntKind.i64.wrap ((m : Int) + (p : Int)) = ((m + p : Nat) : Int) := by rw [IntKind.wrap_i64]; omega
      rw [hp] at hr5 ho5
      have HR5 := Lib.hid hr5; have HO5 := Lib.hid ho5
      have HB5 := Lib.hid ((hb.out.drew).grown hg5 hb.out.size (fun k hk => by cases hk; exact hwb))
      clear hr5 ho5 hg5 hC htk hrl ea hi0 hz0 hsz hby hc5 hp e5b HR4 HO4 HB4
      go_wp2_with fail
      go_region_held_law (fun _ => True) (trivial) ((refine step_run (o := ⟨some 45, _, _, _, _, _⟩) rfl (.tmp 41) (.tmp 44) 22 22 rfl (.slice (some ⟨b, m, none⟩) (n - m) (c3 - m)) (.slice (some ⟨b, 0, none⟩) m c3) rfl rfl _ _ HR5.out ?_))
      all_goals
        go_wp2
        go_roundw
        case rel => exact ⟨m + p, hp1, rfl, by omega, HO5.out, HB5.out⟩
        case measure => simp [intOf]; omega
    · have hmn : m = n := by omega
      subst hmn
      have hd : decide (m < m) = false := by simp
      have hd2 : decide ((m : Int) < (m : Int)) = false := by simp
      have HO6 : Hid (Ow KI 3 w.heap.size (.slice (some ⟨b, 0, none⟩) m c3) (List.replicate m i) wr) := by have := ho.out; rw [Nat.sub_self, List.replicate_zero, List.append_nil] at this; exact this
      clear ho hlt
      go_wp2
      go_ret
      exact ⟨_, rfl, HO6.out, hb.out⟩
end Go.Proofs.YthjcnifdlfjieaaGreatDoor.Ib
