import Derived.Test.YthjcnifdlfjieaaGreatDoorIf
set_option linter.unusedVariables false
set_option linter.unusedSimpArgs false
namespace Go.Proofs.YthjcnifdlfjieaaGreatDoor.Ig
open Go.RowKit Go.Shelf Go.Proofs.YthjcnifdlfjieaaGreatDoorW.PrintWords Go.Proofs.YthjcnifdlfjieaaGreatDoor.Ha Go.Proofs.YthjcnifdlfjieaaGreatDoor.Hb Go.Proofs.YthjcnifdlfjieaaGreatDoor.Hc Go.Proofs.YthjcnifdlfjieaaGreatDoor.Hp Go.Proofs.YthjcnifdlfjieaaGreatDoor.Hd Go.Proofs.YthjcnifdlfjieaaGreatDoor.He Go.Proofs.YthjcnifdlfjieaaGreatDoor.Hf Go.Proofs.YthjcnifdlfjieaaGreatDoor.Hg Go.Proofs.YthjcnifdlfjieaaGreatDoor.Hh Go.Proofs.YthjcnifdlfjieaaGreatDoor.Hi Go.Proofs.YthjcnifdlfjieaaGreatDoor.Hm Go.Proofs.YthjcnifdlfjieaaGreatDoor.Hj Go.Proofs.YthjcnifdlfjieaaGreatDoor.Hk Go.Proofs.YthjcnifdlfjieaaGreatDoor.Hl Go.Proofs.YthjcnifdlfjieaaGreatDoor.Hn Go.Proofs.YthjcnifdlfjieaaGreatDoor.Ho Go.Proofs.YthjcnifdlfjieaaGreatDoor.Hq Go.Proofs.YthjcnifdlfjieaaGreatDoor.Hr Go.Proofs.YthjcnifdlfjieaaGreatDoor.If

noncomputable def U (x : V) : V := ⟨[((uniqF x.el).length : Int)], uniqF x.el⟩
noncomputable def X (x : V) : V := ⟨x.sh, x.el.map (fun s => ofF (place (uniqF x.el) s))⟩
noncomputable def pl (x : V) : List Int := x.el.map (place (uniqF x.el))
theorem X_el (x : V) : (X x).el = (pl x).map ofF := by unfold X pl; simp
theorem pl_range {x : V} (hl : x.el.length ≤ 300) : ∀ n ∈ pl x, 0 ≤ n ∧ n ≤ 300 := by
  intro n hn
  obtain ⟨s, _, rfl⟩ := List.mem_map.1 hn
  have := place_range (uniqF x.el) s
  have := uniqF_len x.el
  omega
theorem pl_lt {x : V} : ∀ n ∈ pl x, 0 ≤ n ∧ n < ((uniqF x.el).length : Int) := by
  intro n hn
  obtain ⟨s, hs, rfl⟩ := List.mem_map.1 hn
  obtain ⟨j, hj, h1, _⟩ := place_in (uniqF x.el) s ((uniqF_mem _ _).2 hs)
  omega
theorem mayU {x : V} (h : mayV x = true) (hl : x.el.length ≤ 300) : mayV (U x) = true := by
  have hu := uniqF_len x.el
  have hs := sizeF_one (uniqF x.el).length (by omega)
  refine mayV_of ?_ ?_ ?_
  · show (sizeF [((uniqF x.el).length : Int)]).2 = 0; rw [hs]
  · show ((uniqF x.el).length : Int) = (sizeF [((uniqF x.el).length : Int)]).1; rw [hs]
  · exact fun s hs => (mayV_parts h).2.2 s ((uniqF_mem _ _).1 hs)
theorem mayX {x : V} (h : mayV x = true) (hl : x.el.length ≤ 300) : mayV (X x) = true := by
  obtain ⟨h1, h2, _⟩ := mayV_parts h
  refine mayV_of h1 ?_ ?_
  · show (((x.el.map _).length : Nat) : Int) = _; rw [List.length_map]; exact h2
  · intro s hs
    rw [X_el] at hs
    obtain ⟨n, hn, rfl⟩ := List.mem_map.1 hs
    exact mayB_of n (pl_range hl n hn).1 (pl_range hl n hn).2
theorem find_U {x : V} (h : mayV x = true) (hl : x.el.length ≤ 300) : findF (U x) x = (X x, 0) := by
  unfold findF
  rw [if_pos (fineF_ok (mayU h hl) (by intro y hy; simp at hy; exact hy ▸ h) rfl)]
  rfl
theorem uniq_ok {x : V} (h : mayV x = true) (h3 : x.sh.length = 1) : uniqV x = (U x, 0) := by
  unfold uniqV
  rw [if_pos (fineF_ok h (by simp) h3)]
  rfl
theorem places_X {x : V} (hl : x.el.length ≤ 300) : placesF (X x).el (itemsN (U x).sh) = (pl x, 0) := by
  unfold placesF
  rw [X_el, allF_of _ (pl_range hl)]
  simp only
  rw [if_neg]
  intro h
  rw [List.any_eq_true] at h
  obtain ⟨n, hn, h2⟩ := h
  have := pl_lt n hn
  have e : itemsN (U x).sh = ((uniqF x.el).length : Int) := rfl
  rw [e] at h2
  simp at h2
  omega
theorem item_U {x : V} (h : mayV x = true) (hl : x.el.length ≤ 300) (s : ByteArray) (hs : s ∈ x.el) : (itemR (U x) (place (uniqF x.el) s)).1.el = [s] := by
  obtain ⟨j, hj, h1, h2⟩ := place_in (uniqF x.el) s ((uniqF_mem _ _).2 hs)
  have hok : itemOk (U x) (place (uniqF x.el) s) = true := by
    unfold itemOk
    rw [mayU h hl, h1]
    have e : itemsN (U x).sh = ((uniqF x.el).length : Int) := rfl
    rw [e]
    simp; omega
  unfold itemR
  rw [if_pos hok, h1]
  have hz : itemSz (U x) = 1 := by
    unfold itemSz
    have e : itemsN (U x).sh = ((uniqF x.el).length : Int) := rfl
    rw [e, Int.toNat_natCast]
    exact Nat.div_self (show 0 < (uniqF x.el).length by omega)
  show ((U x).el.drop ((j : Int).toNat * itemSz (U x))).take (itemSz (U x)) = [s]
  rw [hz, Int.toNat_natCast, Nat.mul_one]
  show ((uniqF x.el).drop j).take 1 = [s]
  rw [List.drop_eq_getElem_cons hj, h2]
  rfl
theorem flat_one (l : List ByteArray) : (l.map (fun s => [s])).flatten = l := by
  induction l with
  | nil => rfl
  | cons s l ih => rw [List.map_cons, List.flatten_cons, ih]; rfl
theorem index_U {x : V} (h : mayV x = true) (hl : x.el.length ≤ 300) (h3 : x.sh.length = 1) : indexF (U x) (X x) = (x, 0) := by
  have hf : fineF (U x) [X x] = 0 := fineF_ok (mayU h hl) (by intro y hy; simp at hy; exact hy ▸ mayX h hl) rfl
  have hE : indexE (U x) (X x) = 0 := by
    unfold indexE
    rw [hf, if_neg (by rintro (h | h); exact absurd h (by decide); cases h), places_X hl, if_neg (by simp)]
    show (sizeF (x.sh ++ [])).2 = 0
    rw [List.append_nil]
    exact (mayV_parts h).1
  unfold indexF
  rw [if_pos hE, places_X hl]
  show ((⟨x.sh ++ [], picks (U x) (pl x)⟩ : V), (0 : Int)) = (x, 0)
  have hp : picks (U x) (pl x) = x.el := by
    unfold picks pl
    rw [List.map_map]
    have : x.el.map ((fun i => (itemR (U x) i).1.el) ∘ place (uniqF x.el)) = x.el.map (fun s => [s]) := List.map_congr_left (fun s hs => item_U h hl s hs)
    rw [this]
    exact flat_one x.el
  rw [hp, List.append_nil]

/-- What Find tells. -/
noncomputable def fl (x y : V) : List Int := y.el.map (place x.el)
noncomputable def Fv (x y : V) : V := ⟨y.sh, (fl x y).map ofF⟩
theorem find_ok {x y : V} (h : mayV x = true) (h2 : mayV y = true) (h3 : x.sh.length = 1) : findF x y = (Fv x y, 0) := by
  unfold findF
  rw [if_pos (fineF_ok h (by intro z hz; simp at hz; exact hz ▸ h2) h3)]
  simp [Fv, fl]
theorem fl_all {x y : V} (hl : x.el.length ≤ 300) : allF (Fv x y).el = some (fl x y) :=
  allF_of _ (by
    intro n hn
    obtain ⟨s, _, rfl⟩ := List.mem_map.1 hn
    have := place_range x.el s
    omega)
theorem fl_len (x y : V) : (fl x y).length = y.el.length := by simp [fl]
theorem fl_at (x y : V) (i : Nat) (h : i < (fl x y).length) : (fl x y)[i] = place x.el (y.el[i]'(by rw [fl_len] at h; exact h)) := by simp [fl]
end Go.Proofs.YthjcnifdlfjieaaGreatDoor.Ig
