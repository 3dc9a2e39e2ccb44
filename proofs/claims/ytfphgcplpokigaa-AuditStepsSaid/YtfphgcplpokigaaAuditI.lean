/-
  Audit: the contract of keeps.
-/
import Derived.Test.YtfphgcplpokigaaAuditH
namespace Go.Proofs.Ytfphgcplpokigaa
open Go.RowKit Go.Sx Go.Au
set_option linter.unusedSimpArgs false
set_option linter.unusedVariables false

set_option maxRecDepth 100000 in
set_option maxHeartbeats 8000000 in
theorem auKeeps1 (pb : Nat) (A : Au) (a b v : Nat) (had : Bool) (cy co : Int) (w0 w : World) (F : HP) (hs : Sat w0 w (auP pb A * F)) (hA : AOk A) (hok : okN 1 a b v = true) (hv : v < 4294967296) :
    Calls Try.prog 78 #[.pointer (some ⟨pb, 0, none⟩), evA 1 a b v cy co, .bool had] w (Aft w0 pb A 1 a b v had F) := by
  have hs := auP_out hs
  go_enter Try.func78, Try.ntmps78
  go_wp2_with fail
  refine (auLines1 pb A a b v had cy co w0 _ F (auP_of (F := F) own_left) hA (by simp [okN, shp, win] at hok; omega)).mono ?_
  rintro e w' ⟨rfl, hy, hn⟩
  go_wp2_with fail
  go_ret
  exact ⟨rfl, hy, hn⟩
set_option maxRecDepth 100000 in
set_option maxHeartbeats 8000000 in
theorem auKeeps2 (pb : Nat) (A : Au) (a b v : Nat) (had : Bool) (cy co : Int) (w0 w : World) (F : HP) (hs : Sat w0 w (auP pb A * F)) (hA : AOk A) (hok : okN 2 a b v = true) (hv : v < 4294967296) :
    Calls Try.prog 78 #[.pointer (some ⟨pb, 0, none⟩), evA 2 a b v cy co, .bool had] w (Aft w0 pb A 2 a b v had F) := by
  have hs := auP_out hs
  have hb : b < 4294967296 := by simp [okN, shp, win] at hok; omega
  go_enter Try.func78, Try.ntmps78
  go_wp2_with fail
  refine (auActs pb A b w0 _ any (auP_of own_left) hA hb).mono ?_
  rintro e w' ⟨rfl, rfl⟩
  go_wp2_with fail
  go_ret
  refine aft_both rfl (auP_of ?_)
  dsimp only [learn]
  exact own_left
set_option maxRecDepth 100000 in
set_option maxHeartbeats 8000000 in
theorem auKeeps3 (pb : Nat) (A : Au) (a b v : Nat) (had : Bool) (cy co : Int) (w0 w : World) (F : HP) (hs : Sat w0 w (auP pb A * F)) (hA : AOk A) (hok : okN 3 a b v = true) (hv : v < 4294967296) :
    Calls Try.prog 78 #[.pointer (some ⟨pb, 0, none⟩), evA 3 a b v cy co, .bool had] w (Aft w0 pb A 3 a b v had F) := by
  have hs := auP_out hs
  go_enter Try.func78, Try.ntmps78
  go_wp2_with fail
  refine (auLines3 pb A a b v had cy co w0 _ F (auP_of (F := F) own_left) hA (by simp [okN, shp, win] at hok; omega)).mono ?_
  rintro e w' ⟨rfl, hy, hn⟩
  go_wp2_with fail
  go_ret
  exact ⟨rfl, hy, hn⟩
set_option maxRecDepth 100000 in
set_option maxHeartbeats 8000000 in
theorem auKeeps4 (pb : Nat) (A : Au) (a b v : Nat) (had : Bool) (cy co : Int) (w0 w : World) (F : HP) (hs : Sat w0 w (auP pb A * F)) (hA : AOk A) (hok : okN 4 a b v = true) (hv : v < 4294967296) :
    Calls Try.prog 78 #[.pointer (some ⟨pb, 0, none⟩), evA 4 a b v cy co, .bool had] w (Aft w0 pb A 4 a b v had F) := by
  have hs := auP_out hs
  go_enter Try.func78, Try.ntmps78
  go_wp2_with fail
  refine (auLines4 pb A a b v had cy co w0 _ F (auP_of (F := F) own_left) (by simp [okN, shp, win] at hok; omega)).mono ?_
  rintro e w' ⟨rfl, hy, hn⟩
  go_wp2_with fail
  go_ret
  exact ⟨rfl, hy, hn⟩
set_option maxRecDepth 100000 in
set_option maxHeartbeats 8000000 in
theorem auKeeps5 (pb : Nat) (A : Au) (a b v : Nat) (had : Bool) (cy co : Int) (w0 w : World) (F : HP) (hs : Sat w0 w (auP pb A * F)) (hA : AOk A) (hok : okN 5 a b v = true) (hv : v < 4294967296) :
    Calls Try.prog 78 #[.pointer (some ⟨pb, 0, none⟩), evA 5 a b v cy co, .bool had] w (Aft w0 pb A 5 a b v had F) := by
  have hs := auP_out hs
  go_enter Try.func78, Try.ntmps78
  go_wp2_with fail
  refine (auChange pb A a b v had cy co w0 _ F (auP_of (F := F) own_left) hA (by simp [okN, shp, win] at hok; omega) (by simp [okN, shp, win] at hok; omega)).mono ?_
  rintro e w' ⟨rfl, hy, hn⟩
  go_wp2_with fail
  go_ret
  exact ⟨rfl, hy, hn⟩
set_option maxRecDepth 100000 in
set_option maxHeartbeats 8000000 in
theorem auKeeps6 (pb : Nat) (A : Au) (a b v : Nat) (had : Bool) (cy co : Int) (w0 w : World) (F : HP) (hs : Sat w0 w (auP pb A * F)) (hA : AOk A) (hok : okN 6 a b v = true) (hv : v < 4294967296) :
    Calls Try.prog 78 #[.pointer (some ⟨pb, 0, none⟩), evA 6 a b v cy co, .bool had] w (Aft w0 pb A 6 a b v had F) := by
  have hs := auP_out hs
  go_enter Try.func78, Try.ntmps78
  go_wp2_with fail
  refine (auJobs6 pb A a b v had cy co w0 _ F (auP_of (F := F) own_left) hA (by simp [okN, shp, win] at hok; omega) hv).mono ?_
  rintro e w' ⟨rfl, hy, hn⟩
  go_wp2_with fail
  go_ret
  exact ⟨rfl, hy, hn⟩
set_option maxRecDepth 100000 in
set_option maxHeartbeats 8000000 in
theorem auKeeps7 (pb : Nat) (A : Au) (a b v : Nat) (had : Bool) (cy co : Int) (w0 w : World) (F : HP) (hs : Sat w0 w (auP pb A * F)) (hA : AOk A) (hok : okN 7 a b v = true) (hv : v < 4294967296) :
    Calls Try.prog 78 #[.pointer (some ⟨pb, 0, none⟩), evA 7 a b v cy co, .bool had] w (Aft w0 pb A 7 a b v had F) := by
  have hs := auP_out hs
  go_enter Try.func78, Try.ntmps78
  go_wp2_with fail
  refine (auJobs7 pb A a b v had cy co w0 _ F (auP_of (F := F) own_left) hA (by simp [okN, shp, win] at hok; omega) hv).mono ?_
  rintro e w' ⟨rfl, hy, hn⟩
  go_wp2_with fail
  go_ret
  exact ⟨rfl, hy, hn⟩
set_option maxRecDepth 100000 in
set_option maxHeartbeats 8000000 in
theorem auKeeps8 (pb : Nat) (A : Au) (a b v : Nat) (had : Bool) (cy co : Int) (w0 w : World) (F : HP) (hs : Sat w0 w (auP pb A * F)) (hA : AOk A) (hok : okN 8 a b v = true) (hv : v < 4294967296) :
    Calls Try.prog 78 #[.pointer (some ⟨pb, 0, none⟩), evA 8 a b v cy co, .bool had] w (Aft w0 pb A 8 a b v had F) := by
  have hs := auP_out hs
  go_enter Try.func78, Try.ntmps78
  go_wp2_with fail
  refine (auJobs8 pb A a b v had cy co w0 _ F (auP_of (F := F) own_left) hA (by simp [okN, shp, win] at hok; omega) hv).mono ?_
  rintro e w' ⟨rfl, hy, hn⟩
  go_wp2_with fail
  go_ret
  exact ⟨rfl, hy, hn⟩
set_option maxRecDepth 100000 in
set_option maxHeartbeats 8000000 in
theorem auKeeps9 (pb : Nat) (A : Au) (a b v : Nat) (had : Bool) (cy co : Int) (w0 w : World) (F : HP) (hs : Sat w0 w (auP pb A * F)) (hA : AOk A) (hok : okN 9 a b v = true) (hv : v < 4294967296) :
    Calls Try.prog 78 #[.pointer (some ⟨pb, 0, none⟩), evA 9 a b v cy co, .bool had] w (Aft w0 pb A 9 a b v had F) := by
  have hs := auP_out hs
  go_enter Try.func78, Try.ntmps78
  go_wp2_with fail
  refine (auRests9 pb A a b v had cy co w0 _ F (auP_of (F := F) own_left) hA (by simp [okN, shp, win] at hok; omega) (by simp [okN, shp, win] at hok; omega)).mono ?_
  rintro e w' ⟨rfl, hy, hn⟩
  go_wp2_with fail
  go_ret
  exact ⟨rfl, hy, hn⟩
set_option maxRecDepth 100000 in
set_option maxHeartbeats 8000000 in
theorem auKeeps10 (pb : Nat) (A : Au) (a b v : Nat) (had : Bool) (cy co : Int) (w0 w : World) (F : HP) (hs : Sat w0 w (auP pb A * F)) (hA : AOk A) (hok : okN 10 a b v = true) (hv : v < 4294967296) :
    Calls Try.prog 78 #[.pointer (some ⟨pb, 0, none⟩), evA 10 a b v cy co, .bool had] w (Aft w0 pb A 10 a b v had F) := by
  have hs := auP_out hs
  go_enter Try.func78, Try.ntmps78
  go_wp2_with fail
  refine (auRests10 pb A a b v had cy co w0 _ F (auP_of (F := F) own_left) hA (by simp [okN, shp, win] at hok; omega) (by simp [okN, shp, win] at hok; omega)).mono ?_
  rintro e w' ⟨rfl, hy, hn⟩
  go_wp2_with fail
  go_ret
  exact ⟨rfl, hy, hn⟩
set_option maxRecDepth 100000 in
set_option maxHeartbeats 8000000 in
theorem auKeeps12 (pb : Nat) (A : Au) (a b v : Nat) (had : Bool) (cy co : Int) (w0 w : World) (F : HP) (hs : Sat w0 w (auP pb A * F)) (hA : AOk A) (hok : okN 12 a b v = true) (hv : v < 4294967296) :
    Calls Try.prog 78 #[.pointer (some ⟨pb, 0, none⟩), evA 12 a b v cy co, .bool had] w (Aft w0 pb A 12 a b v had F) := by
  have hs := auP_out hs
  go_enter Try.func78, Try.ntmps78
  go_wp2_with fail
  refine (auOwns12 pb A a b v had cy co w0 _ F (auP_of (F := F) own_left) hA (by simp [okN, shp, win] at hok; omega) (by simp [okN, shp, win] at hok; omega)).mono ?_
  rintro e w' ⟨rfl, hy, hn⟩
  go_wp2_with fail
  go_ret
  exact ⟨rfl, hy, hn⟩
set_option maxRecDepth 100000 in
set_option maxHeartbeats 8000000 in
theorem auKeeps13 (pb : Nat) (A : Au) (a b v : Nat) (had : Bool) (cy co : Int) (w0 w : World) (F : HP) (hs : Sat w0 w (auP pb A * F)) (hA : AOk A) (hok : okN 13 a b v = true) (hv : v < 4294967296) :
    Calls Try.prog 78 #[.pointer (some ⟨pb, 0, none⟩), evA 13 a b v cy co, .bool had] w (Aft w0 pb A 13 a b v had F) := by
  have hs := auP_out hs
  go_enter Try.func78, Try.ntmps78
  go_wp2_with fail
  refine (auOwns13 pb A a b v had cy co w0 _ F (auP_of (F := F) own_left) hA (by simp [okN, shp, win] at hok; omega) (by simp [okN, shp, win] at hok; omega)).mono ?_
  rintro e w' ⟨rfl, hy, hn⟩
  go_wp2_with fail
  go_ret
  exact ⟨rfl, hy, hn⟩
set_option maxRecDepth 100000 in
set_option maxHeartbeats 8000000 in
theorem auKeeps14 (pb : Nat) (A : Au) (a b v : Nat) (had : Bool) (cy co : Int) (w0 w : World) (F : HP) (hs : Sat w0 w (auP pb A * F)) (hA : AOk A) (hok : okN 14 a b v = true) (hv : v < 4294967296) :
    Calls Try.prog 78 #[.pointer (some ⟨pb, 0, none⟩), evA 14 a b v cy co, .bool had] w (Aft w0 pb A 14 a b v had F) := by
  have hs := auP_out hs
  have ha : a < 4294967296 := by simp [okN, shp, win] at hok; omega
  go_enter Try.func78, Try.ntmps78
  go_wp2_with fail
  refine (auActs pb A a w0 _ any (auP_of own_left) hA ha).mono ?_
  rintro e w' ⟨rfl, rfl⟩
  go_wp2_with fail
  go_ret
  refine aft_both rfl (auP_of ?_)
  dsimp only [learn]
  exact own_left
set_option maxRecDepth 100000 in
set_option maxHeartbeats 8000000 in
theorem auKeeps15 (pb : Nat) (A : Au) (a b v : Nat) (had : Bool) (cy co : Int) (w0 w : World) (F : HP) (hs : Sat w0 w (auP pb A * F)) (hA : AOk A) (hok : okN 15 a b v = true) (hv : v < 4294967296) :
    Calls Try.prog 78 #[.pointer (some ⟨pb, 0, none⟩), evA 15 a b v cy co, .bool had] w (Aft w0 pb A 15 a b v had F) := by
  have hs := auP_out hs
  have ha : a < 4294967296 := by simp [okN, shp, win] at hok; omega
  go_enter Try.func78, Try.ntmps78
  go_wp2_with fail
  refine (auActs pb A a w0 _ any (auP_of own_left) hA ha).mono ?_
  rintro e w' ⟨rfl, rfl⟩
  go_wp2_with fail
  go_ret
  refine aft_both rfl (auP_of ?_)
  dsimp only [learn]
  exact own_left
set_option maxRecDepth 100000 in
set_option maxHeartbeats 8000000 in
theorem auKeeps18 (pb : Nat) (A : Au) (a b v : Nat) (had : Bool) (cy co : Int) (w0 w : World) (F : HP) (hs : Sat w0 w (auP pb A * F)) (hA : AOk A) (hok : okN 18 a b v = true) (hv : v < 4294967296) :
    Calls Try.prog 78 #[.pointer (some ⟨pb, 0, none⟩), evA 18 a b v cy co, .bool had] w (Aft w0 pb A 18 a b v had F) := by
  have hs := auP_out hs
  go_enter Try.func78, Try.ntmps78
  go_wp2_with fail
  go_ret
  refine aft_both rfl (auP_of ?_)
  dsimp only [learn]
  exact own_left
set_option maxRecDepth 100000 in
set_option maxHeartbeats 8000000 in
theorem auKeeps19 (pb : Nat) (A : Au) (a b v : Nat) (had : Bool) (cy co : Int) (w0 w : World) (F : HP) (hs : Sat w0 w (auP pb A * F)) (hA : AOk A) (hok : okN 19 a b v = true) (hv : v < 4294967296) :
    Calls Try.prog 78 #[.pointer (some ⟨pb, 0, none⟩), evA 19 a b v cy co, .bool had] w (Aft w0 pb A 19 a b v had F) := by
  have hs := auP_out hs
  have ha : a < 4294967296 := by simp [okN, shp, win] at hok; omega
  go_enter Try.func78, Try.ntmps78
  go_wp2_with fail
  refine (auActs pb A a w0 _ any (auP_of own_left) hA ha).mono ?_
  rintro e w' ⟨rfl, rfl⟩
  go_wp2_with fail
  go_ret
  refine aft_both rfl (auP_of ?_)
  dsimp only [learn]
  exact own_left
set_option maxRecDepth 100000 in
set_option maxHeartbeats 8000000 in
theorem auKeeps20 (pb : Nat) (A : Au) (a b v : Nat) (had : Bool) (cy co : Int) (w0 w : World) (F : HP) (hs : Sat w0 w (auP pb A * F)) (hA : AOk A) (hok : okN 20 a b v = true) (hv : v < 4294967296) :
    Calls Try.prog 78 #[.pointer (some ⟨pb, 0, none⟩), evA 20 a b v cy co, .bool had] w (Aft w0 pb A 20 a b v had F) := by
  have hs := auP_out hs
  have hb : b < 4294967296 := by simp [okN, shp, win] at hok; omega
  go_enter Try.func78, Try.ntmps78
  go_wp2_with fail
  refine (auActs pb A b w0 _ any (auP_of own_left) hA hb).mono ?_
  rintro e w' ⟨rfl, rfl⟩
  go_wp2_with fail
  go_ret
  refine aft_both rfl (auP_of ?_)
  dsimp only [learn]
  exact own_left
set_option maxRecDepth 100000 in
set_option maxHeartbeats 8000000 in
theorem auKeeps21 (pb : Nat) (A : Au) (a b v : Nat) (had : Bool) (cy co : Int) (w0 w : World) (F : HP) (hs : Sat w0 w (auP pb A * F)) (hA : AOk A) (hok : okN 21 a b v = true) (hv : v < 4294967296) :
    Calls Try.prog 78 #[.pointer (some ⟨pb, 0, none⟩), evA 21 a b v cy co, .bool had] w (Aft w0 pb A 21 a b v had F) := by
  have hs := auP_out hs
  go_enter Try.func78, Try.ntmps78
  go_wp2_with fail
  refine (auOver pb A 21 a b v (by simp [okN, shp, win] at hok; omega) had cy co w0 _ F (auP_of (F := F) own_left) hA (by simp [okN, shp, win] at hok; omega)).mono ?_
  rintro e w' ⟨rfl, hy, hn⟩
  go_wp2_with fail
  go_ret
  exact ⟨rfl, hy, hn⟩
set_option maxRecDepth 100000 in
set_option maxHeartbeats 8000000 in
theorem auKeeps22 (pb : Nat) (A : Au) (a b v : Nat) (had : Bool) (cy co : Int) (w0 w : World) (F : HP) (hs : Sat w0 w (auP pb A * F)) (hA : AOk A) (hok : okN 22 a b v = true) (hv : v < 4294967296) :
    Calls Try.prog 78 #[.pointer (some ⟨pb, 0, none⟩), evA 22 a b v cy co, .bool had] w (Aft w0 pb A 22 a b v had F) := by
  have hs := auP_out hs
  go_enter Try.func78, Try.ntmps78
  go_wp2_with fail
  refine (auOver pb A 22 a b v (by simp [okN, shp, win] at hok; omega) had cy co w0 _ F (auP_of (F := F) own_left) hA (by simp [okN, shp, win] at hok; omega)).mono ?_
  rintro e w' ⟨rfl, hy, hn⟩
  go_wp2_with fail
  go_ret
  exact ⟨rfl, hy, hn⟩
set_option maxRecDepth 100000 in
set_option maxHeartbeats 8000000 in
theorem auKeeps23 (pb : Nat) (A : Au) (a b v : Nat) (had : Bool) (cy co : Int) (w0 w : World) (F : HP) (hs : Sat w0 w (auP pb A * F)) (hA : AOk A) (hok : okN 23 a b v = true) (hv : v < 4294967296) :
    Calls Try.prog 78 #[.pointer (some ⟨pb, 0, none⟩), evA 23 a b v cy co, .bool had] w (Aft w0 pb A 23 a b v had F) := by
  have hs := auP_out hs
  have ha : a < 4294967296 := by simp [okN, shp, win] at hok; omega
  go_enter Try.func78, Try.ntmps78
  go_wp2_with fail
  refine (auActs pb A a w0 _ any (auP_of own_left) hA ha).mono ?_
  rintro e w' ⟨rfl, rfl⟩
  go_wp2_with fail
  go_ret
  refine aft_both rfl (auP_of ?_)
  dsimp only [learn]
  exact own_left
set_option maxRecDepth 100000 in
set_option maxHeartbeats 8000000 in
theorem auKeeps24 (pb : Nat) (A : Au) (a b v : Nat) (had : Bool) (cy co : Int) (w0 w : World) (F : HP) (hs : Sat w0 w (auP pb A * F)) (hA : AOk A) (hok : okN 24 a b v = true) (hv : v < 4294967296) :
    Calls Try.prog 78 #[.pointer (some ⟨pb, 0, none⟩), evA 24 a b v cy co, .bool had] w (Aft w0 pb A 24 a b v had F) := by
  have hs := auP_out hs
  go_enter Try.func78, Try.ntmps78
  go_wp2_with fail
  go_ret
  refine aft_both rfl (auP_of ?_)
  dsimp only [learn]
  exact own_left
theorem bneD (x y : Int) : (x != y) = decide (x ≠ y) := by rw [Bool.eq_iff_iff]; simp
theorem rule11 (A : Au) (a b v : Nat) (had : Bool) : rule A 11 a b v had = decide ((tkAt A a).lev ≠ (b : Int) + 1) := rfl
set_option maxRecDepth 100000 in
set_option maxHeartbeats 8000000 in
theorem auKeeps11 (pb : Nat) (A : Au) (a b v : Nat) (had : Bool) (cy co : Int) (w0 w : World) (F : HP) (hs : Sat w0 w (auP pb A * F)) (hA : AOk A) (hok : okN 11 a b v = true) (hv : v < 4294967296) :
    Calls Try.prog 78 #[.pointer (some ⟨pb, 0, none⟩), evA 11 a b v cy co, .bool had] w (Aft w0 pb A 11 a b v had F) := by
  have hs := auP_out hs
  have ha : a < 64 := by simp [okN, shp, win] at hok; omega
  have hb : b < 32 := by simp [okN, shp, win] at hok; omega
  have Hr := hid (rule11 A a b v had)
  have i1 : (a : Int) < 64 := by omega
  have i2 : decide (a < 64) = true := by simp; omega
  haveI : Lt a A.ts.length := ⟨by rw [hA.lt]; omega⟩
  go_enter Try.func78, Try.ntmps78
  go_wp2_with fail
  go_quiet (fail); go_wp2_with fail
  go_ret
  refine aft_both ?_ (auP_of ?_)
  · rw [Hr.out]; exact bneD _ _
  · dsimp only [learn, setT, tkAt]
    exact own_left
theorem rule16 (A : Au) (a b v : Nat) (had : Bool) : rule A 16 a b v had = (decide (a < 64 ∧ (tkAt A a).st = 2 ∧ (tkAt A a).on = 96 + b) || acts A a) := rfl
theorem rule17 (A : Au) (a b v : Nat) (had : Bool) : rule A 17 a b v had = (decide (a < 64 ∧ (tkAt A a).st = 2 ∧ (tkAt A a).on = 128 + b) || acts A a) := rfl
set_option maxRecDepth 100000 in
set_option maxHeartbeats 8000000 in
theorem auKeeps16 (pb : Nat) (A : Au) (a b v : Nat) (had : Bool) (cy co : Int) (w0 w : World) (F : HP) (hs : Sat w0 w (auP pb A * F)) (hA : AOk A) (hok : okN 16 a b v = true) (hv : v < 4294967296) :
    Calls Try.prog 78 #[.pointer (some ⟨pb, 0, none⟩), evA 16 a b v cy co, .bool had] w (Aft w0 pb A 16 a b v had F) := by
  have hs := auP_out hs
  have ha : a < 80 := by simp [okN, shp, win] at hok; omega
  have hb : b < 32 := by simp [okN, shp, win] at hok; omega
  have Hr := hid (rule16 A a b v had)
  have h3 : (tkg A.ts a).st = (tkAt A a).st := rfl
  have h4 : (tkg A.ts a).on = (tkAt A a).on := rfl
  by_cases h1 : a < 64
  · have i1 : (a : Int) < 64 := by omega
    have i2 : decide (a < 64) = true := by simp; omega
    have i3 : decide ((a : Int) < 64) = true := by simp; omega
    haveI : Lt a A.ts.length := ⟨by rw [hA.lt]; omega⟩
    have hon := hA.on _ (tkg_mem (l := A.ts) (k := a) this.lt)
    by_cases h2 : (tkAt A a).st = 2
    · have e2 : ((tkg A.ts a).st == 2) = true := by rw [h3]; simp [h2]
      by_cases h5 : (tkAt A a).on = 96 + b
      · have e3 : (((tkg A.ts a).on : Int) == 96 + (b : Int)) = true := by rw [h4]; simp; omega
        rw [decide_eq_true ⟨h1, h2, h5⟩, Bool.true_or] at Hr
        clear h1 h2 h3 h4 h5
        go_enter Try.func78, Try.ntmps78
        go_wp2_with fail
        go_quiet (fail); go_wp2_with fail
        skip
        go_ret
        refine aft_both ?_ (auP_of ?_)
        · first | (rw [Hr.out]; done) | (rw [Hr.out]; rfl)
        · dsimp only [learn]
          exact own_left
      · have e3 : (((tkg A.ts a).on : Int) == 96 + (b : Int)) = false := by rw [h4]; simp; omega
        rw [decide_eq_false (fun h => h5 h.2.2), Bool.false_or] at Hr
        clear h1 h2 h3 h4 h5
        go_enter Try.func78, Try.ntmps78
        go_wp2_with fail
        go_quiet (fail); go_wp2_with fail
        refine (auActs pb A a w0 _ any (auP_of own_left) hA (by omega)).mono ?_
        rintro e w' ⟨rfl, rfl⟩
        go_wp2_with fail
        go_ret
        refine aft_both ?_ (auP_of ?_)
        · first | (rw [Hr.out]; done) | (rw [Hr.out]; rfl)
        · dsimp only [learn]
          exact own_left
    · have e2 : ((tkg A.ts a).st == 2) = false := by rw [h3]; simp [h2]
      rw [decide_eq_false (fun h => h2 h.2.1), Bool.false_or] at Hr
      clear h1 h2 h3 h4
      go_enter Try.func78, Try.ntmps78
      go_wp2_with fail
      go_quiet (fail); go_wp2_with fail
      refine (auActs pb A a w0 _ any (auP_of own_left) hA (by omega)).mono ?_
      rintro e w' ⟨rfl, rfl⟩
      go_wp2_with fail
      go_ret
      refine aft_both ?_ (auP_of ?_)
      · first | (rw [Hr.out]; done) | (rw [Hr.out]; rfl)
      · dsimp only [learn]
        exact own_left
  · have i3 : decide ((a : Int) < 64) = false := by simp; omega
    rw [decide_eq_false (fun h => h1 h.1), Bool.false_or] at Hr
    clear h1 h3 h4
    go_enter Try.func78, Try.ntmps78
    go_wp2_with fail
    go_quiet (fail); go_wp2_with fail
    refine (auActs pb A a w0 _ any (auP_of own_left) hA (by omega)).mono ?_
    rintro e w' ⟨rfl, rfl⟩
    go_wp2_with fail
    go_ret
    refine aft_both ?_ (auP_of ?_)
    · first | (rw [Hr.out]; done) | (rw [Hr.out]; rfl)
    · dsimp only [learn]
      exact own_left
set_option maxRecDepth 100000 in
set_option maxHeartbeats 8000000 in
theorem auKeeps17 (pb : Nat) (A : Au) (a b v : Nat) (had : Bool) (cy co : Int) (w0 w : World) (F : HP) (hs : Sat w0 w (auP pb A * F)) (hA : AOk A) (hok : okN 17 a b v = true) (hv : v < 4294967296) :
    Calls Try.prog 78 #[.pointer (some ⟨pb, 0, none⟩), evA 17 a b v cy co, .bool had] w (Aft w0 pb A 17 a b v had F) := by
  have hs := auP_out hs
  have ha : a < 80 := by simp [okN, shp, win] at hok; omega
  have hb : b < 32 := by simp [okN, shp, win] at hok; omega
  have Hr := hid (rule17 A a b v had)
  have h3 : (tkg A.ts a).st = (tkAt A a).st := rfl
  have h4 : (tkg A.ts a).on = (tkAt A a).on := rfl
  by_cases h1 : a < 64
  · have i1 : (a : Int) < 64 := by omega
    have i2 : decide (a < 64) = true := by simp; omega
    have i3 : decide ((a : Int) < 64) = true := by simp; omega
    haveI : Lt a A.ts.length := ⟨by rw [hA.lt]; omega⟩
    have hon := hA.on _ (tkg_mem (l := A.ts) (k := a) this.lt)
    by_cases h2 : (tkAt A a).st = 2
    · have e2 : ((tkg A.ts a).st == 2) = true := by rw [h3]; simp [h2]
      by_cases h5 : (tkAt A a).on = 128 + b
      · have e3 : (((tkg A.ts a).on : Int) == 128 + (b : Int)) = true := by rw [h4]; simp; omega
        rw [decide_eq_true ⟨h1, h2, h5⟩, Bool.true_or] at Hr
        clear h1 h2 h3 h4 h5
        go_enter Try.func78, Try.ntmps78
        go_wp2_with fail
        go_quiet (fail); go_wp2_with fail
        skip
        go_ret
        refine aft_both ?_ (auP_of ?_)
        · first | (rw [Hr.out]; done) | (rw [Hr.out]; rfl)
        · dsimp only [learn]
          exact own_left
      · have e3 : (((tkg A.ts a).on : Int) == 128 + (b : Int)) = false := by rw [h4]; simp; omega
        rw [decide_eq_false (fun h => h5 h.2.2), Bool.false_or] at Hr
        clear h1 h2 h3 h4 h5
        go_enter Try.func78, Try.ntmps78
        go_wp2_with fail
        go_quiet (fail); go_wp2_with fail
        refine (auActs pb A a w0 _ any (auP_of own_left) hA (by omega)).mono ?_
        rintro e w' ⟨rfl, rfl⟩
        go_wp2_with fail
        go_ret
        refine aft_both ?_ (auP_of ?_)
        · first | (rw [Hr.out]; done) | (rw [Hr.out]; rfl)
        · dsimp only [learn]
          exact own_left
    · have e2 : ((tkg A.ts a).st == 2) = false := by rw [h3]; simp [h2]
      rw [decide_eq_false (fun h => h2 h.2.1), Bool.false_or] at Hr
      clear h1 h2 h3 h4
      go_enter Try.func78, Try.ntmps78
      go_wp2_with fail
      go_quiet (fail); go_wp2_with fail
      refine (auActs pb A a w0 _ any (auP_of own_left) hA (by omega)).mono ?_
      rintro e w' ⟨rfl, rfl⟩
      go_wp2_with fail
      go_ret
      refine aft_both ?_ (auP_of ?_)
      · first | (rw [Hr.out]; done) | (rw [Hr.out]; rfl)
      · dsimp only [learn]
        exact own_left
  · have i3 : decide ((a : Int) < 64) = false := by simp; omega
    rw [decide_eq_false (fun h => h1 h.1), Bool.false_or] at Hr
    clear h1 h3 h4
    go_enter Try.func78, Try.ntmps78
    go_wp2_with fail
    go_quiet (fail); go_wp2_with fail
    refine (auActs pb A a w0 _ any (auP_of own_left) hA (by omega)).mono ?_
    rintro e w' ⟨rfl, rfl⟩
    go_wp2_with fail
    go_ret
    refine aft_both ?_ (auP_of ?_)
    · first | (rw [Hr.out]; done) | (rw [Hr.out]; rfl)
    · dsimp only [learn]
      exact own_left

theorem auKeeps (pb : Nat) (A : Au) (k a b v : Nat) (hk : 1 ≤ k ∧ k ≤ 24) (had : Bool) (cy co : Int) (w0 w : World) (F : HP) (hs : Sat w0 w (auP pb A * F)) (hA : AOk A) (hok : okN k a b v = true) (hv : v < 4294967296) :
    Calls Try.prog 78 #[.pointer (some ⟨pb, 0, none⟩), evA k a b v cy co, .bool had] w (Aft w0 pb A k a b v had F) := by
  have h : k = 1 ∨ k = 2 ∨ k = 3 ∨ k = 4 ∨ k = 5 ∨ k = 6 ∨ k = 7 ∨ k = 8 ∨ k = 9 ∨ k = 10 ∨ k = 11 ∨ k = 12 ∨ k = 13 ∨ k = 14 ∨ k = 15 ∨ k = 16 ∨ k = 17 ∨ k = 18 ∨ k = 19 ∨ k = 20 ∨ k = 21 ∨ k = 22 ∨ k = 23 ∨ k = 24 := by omega
  rcases h with rfl | rfl | rfl | rfl | rfl | rfl | rfl | rfl | rfl | rfl | rfl | rfl | rfl | rfl | rfl | rfl | rfl | rfl | rfl | rfl | rfl | rfl | rfl | rfl
  · exact auKeeps1 pb A a b v had cy co w0 w F hs hA hok hv
  · exact auKeeps2 pb A a b v had cy co w0 w F hs hA hok hv
  · exact auKeeps3 pb A a b v had cy co w0 w F hs hA hok hv
  · exact auKeeps4 pb A a b v had cy co w0 w F hs hA hok hv
  · exact auKeeps5 pb A a b v had cy co w0 w F hs hA hok hv
  · exact auKeeps6 pb A a b v had cy co w0 w F hs hA hok hv
  · exact auKeeps7 pb A a b v had cy co w0 w F hs hA hok hv
  · exact auKeeps8 pb A a b v had cy co w0 w F hs hA hok hv
  · exact auKeeps9 pb A a b v had cy co w0 w F hs hA hok hv
  · exact auKeeps10 pb A a b v had cy co w0 w F hs hA hok hv
  · exact auKeeps11 pb A a b v had cy co w0 w F hs hA hok hv
  · exact auKeeps12 pb A a b v had cy co w0 w F hs hA hok hv
  · exact auKeeps13 pb A a b v had cy co w0 w F hs hA hok hv
  · exact auKeeps14 pb A a b v had cy co w0 w F hs hA hok hv
  · exact auKeeps15 pb A a b v had cy co w0 w F hs hA hok hv
  · exact auKeeps16 pb A a b v had cy co w0 w F hs hA hok hv
  · exact auKeeps17 pb A a b v had cy co w0 w F hs hA hok hv
  · exact auKeeps18 pb A a b v had cy co w0 w F hs hA hok hv
  · exact auKeeps19 pb A a b v had cy co w0 w F hs hA hok hv
  · exact auKeeps20 pb A a b v had cy co w0 w F hs hA hok hv
  · exact auKeeps21 pb A a b v had cy co w0 w F hs hA hok hv
  · exact auKeeps22 pb A a b v had cy co w0 w F hs hA hok hv
  · exact auKeeps23 pb A a b v had cy co w0 w F hs hA hok hv
  · exact auKeeps24 pb A a b v had cy co w0 w F hs hA hok hv
end Go.Proofs.Ytfphgcplpokigaa
