/- What the statement leans on, part 4: functions of the program and of the reference as Lean functions, their contracts, and plain laws. -/
import Derived.Test.YtncnhhnbjmpomaaMPS3
namespace Go.Proofs.Ytncnhhnbjmpomaa.Q
open Go.RowKit Go.Proofs.YtncnhhnbjmpomaaW.PrintWords Go.Proofs.YtncnhhnbjmpomaaW.PrintLast Go.Proofs.YtncnhhnbjmpomaaW.PrintMore
attribute [local go_sem] max2_int min2_int max_two min_two max_three min_three max_four min_four   -- for this text's walks alone
set_option linter.unusedVariables false
set_option linter.unusedSimpArgs false
mutual
def soukref01_MulDiv.j0 : Nat → Int → Bool → List Bool → Bool → Bool → Bool → Bool → Option (Int × Bool)
 | 0, _, _, _, _, _, _, _ => none
 | k + 1, x3, x10, x11, x14, x15, x16, x17 => if x14 = true then (soukref01_MulDiv.j1 k x10 x11 x17 false) else (if x3 = 2 then (if x15 = true then (soukref01_MulDiv.j1 k x10 x11 x17 false) else (if x16 = true then (soukref01_MulDiv.j1 k x10 x11 x17 false) else ((soukref01_Wide_at.f x11 0).bind fun t313 => (soukref01_MulDiv.j1 k x10 x11 x17 t313)))) else (soukref01_MulDiv.j1 k x10 x11 x17 false))
def soukref01_MulDiv.j1 : Nat → Bool → List Bool → Bool → Bool → Option (Int × Bool)
 | 0, _, _, _, _ => none
 | k + 1, x10, x11, x17, x90 => if x90 = true then (soukref01_MulDiv.j2 k x10 x11 true) else (soukref01_MulDiv.j2 k x10 x11 x17)
def soukref01_MulDiv.j2 : Nat → Bool → List Bool → Bool → Option (Int × Bool)
 | 0, _, _, _ => none
 | k + 1, x10, x11, x17 => if x17 = true then ((soukref01_Plus.f k x11 (([true] : List Bool))).bind fun t317 => ((soukref01_value.f k t317 x10).bind fun bt320 => (some (bt320.1, bt320.2)))) else ((soukref01_value.f k x11 x10).bind fun bt322 => (some (bt322.1, bt322.2)))
def soukref01_MulDiv.j3 : Nat → Int → Bool → List Bool → Bool → Bool → Bool → Bool → Option (Int × Bool)
 | 0, _, _, _, _, _, _, _ => none
 | k + 1, x3, x10, x11, x14, x15, x16, x17 => if x14 = true then (soukref01_MulDiv.j4 k x10 x11 x17 false) else (if x3 = 2 then (if x15 = true then (soukref01_MulDiv.j4 k x10 x11 x17 false) else (if x16 = true then (soukref01_MulDiv.j4 k x10 x11 x17 false) else ((soukref01_Wide_at.f x11 0).bind fun t366 => (soukref01_MulDiv.j4 k x10 x11 x17 t366)))) else (soukref01_MulDiv.j4 k x10 x11 x17 false))
def soukref01_MulDiv.j4 : Nat → Bool → List Bool → Bool → Bool → Option (Int × Bool)
 | 0, _, _, _, _ => none
 | k + 1, x10, x11, x17, x90 => if x90 = true then (soukref01_MulDiv.j5 k x10 x11 true) else (soukref01_MulDiv.j5 k x10 x11 x17)
def soukref01_MulDiv.j5 : Nat → Bool → List Bool → Bool → Option (Int × Bool)
 | 0, _, _, _ => none
 | k + 1, x10, x11, x17 => if x17 = true then ((soukref01_Plus.f k x11 (([true] : List Bool))).bind fun t370 => ((soukref01_value.f k t370 x10).bind fun bt373 => (some (bt373.1, bt373.2)))) else ((soukref01_value.f k x11 x10).bind fun bt375 => (some (bt375.1, bt375.2)))
end
def soukref01_MulDiv.f (k : Nat) (a0 : Int) (a1 : Int) (a2 : Int) (a3 : Int) : Option (Int × Bool) := if ((decide (a0 < 0)) != (decide (a1 < 0))) = true then ((soukref01_bits.f k a0).bind fun t271 => ((soukref01_bits.f k a1).bind fun t274 => ((soukref01_Times.f k t271 t274).bind fun t277 => ((soukref01_bits.f k a2).bind fun t280 => ((soukref01_Div.f k t277 t280).bind fun bt283 => ((soukref01_Plus.f k bt283.2 bt283.2).bind fun t289 => ((soukref01_trim.f k bt283.2).bind fun t292 => (if (t292.length : Int) = 0 then ((soukref01_bits.f k a2).bind fun t295 => ((soukref01_less.f k t289 t295).bind fun t298 => ((soukref01_bits.f k a2).bind fun t299 => ((soukref01_less.f k t299 t289).bind fun t302 => ((soukref01_value.f k bt283.1 true).bind fun bt303 => (some (bt303.1, bt303.2))))))) else ((soukref01_bits.f k a2).bind fun t305 => ((soukref01_less.f k t289 t305).bind fun t308 => ((soukref01_bits.f k a2).bind fun t309 => ((soukref01_less.f k t309 t289).bind fun t312 => (if a3 = 0 then (soukref01_MulDiv.j0 k a3 true bt283.1 false t308 t312 true) else (if a3 = 1 then (if a3 = 2 then (soukref01_MulDiv.j0 k a3 true bt283.1 false t308 t312 t312) else (soukref01_MulDiv.j0 k a3 true bt283.1 false t308 t312 false)) else (if a3 = 2 then (soukref01_MulDiv.j0 k a3 true bt283.1 false t308 t312 t312) else (soukref01_MulDiv.j0 k a3 true bt283.1 false t308 t312 false)))))))))))))))) else ((soukref01_bits.f k a0).bind fun t324 => ((soukref01_bits.f k a1).bind fun t327 => ((soukref01_Times.f k t324 t327).bind fun t330 => ((soukref01_bits.f k a2).bind fun t333 => ((soukref01_Div.f k t330 t333).bind fun bt336 => ((soukref01_Plus.f k bt336.2 bt336.2).bind fun t342 => ((soukref01_trim.f k bt336.2).bind fun t345 => (if (t345.length : Int) = 0 then ((soukref01_bits.f k a2).bind fun t348 => ((soukref01_less.f k t342 t348).bind fun t351 => ((soukref01_bits.f k a2).bind fun t352 => ((soukref01_less.f k t352 t342).bind fun t355 => ((soukref01_value.f k bt336.1 false).bind fun bt356 => (some (bt356.1, bt356.2))))))) else ((soukref01_bits.f k a2).bind fun t358 => ((soukref01_less.f k t342 t358).bind fun t361 => ((soukref01_bits.f k a2).bind fun t362 => ((soukref01_less.f k t362 t342).bind fun t365 => (if a3 = 0 then (if a3 = 1 then (soukref01_MulDiv.j3 k a3 false bt336.1 false t361 t365 true) else (if a3 = 2 then (soukref01_MulDiv.j3 k a3 false bt336.1 false t361 t365 t365) else (soukref01_MulDiv.j3 k a3 false bt336.1 false t361 t365 false))) else (if a3 = 1 then (soukref01_MulDiv.j3 k a3 false bt336.1 false t361 t365 true) else (if a3 = 2 then (soukref01_MulDiv.j3 k a3 false bt336.1 false t361 t365 t365) else (soukref01_MulDiv.j3 k a3 false bt336.1 false t361 t365 false))))))))))))))))
set_option maxHeartbeats 8000000 in
set_option maxRecDepth 100000 in
theorem soukref01_MulDiv.calls (k : Nat) (a0 : Int) (a1 : Int) (a2 : Int) (a3 : Int) (r1 : Int) (r2 : Bool) (w : World) (h : soukref01_MulDiv.f k a0 a1 a2 a3 = some (r1, r2)) :
  Calls Try.prog 19 #[.int .i64 a0, .int .i64 a1, .int .i64 a2, .int .i64 a3] w fun e w' => e = .returned (.tuple #[.int .i64 r1, .bool r2]) ∧ Below w.heap.size w w' := by
 have HB := Aside0.mk (Below.refl w.heap.size w)
 have H : (if ((decide (a0 < 0)) != (decide (a1 < 0))) = true then ((soukref01_bits.f k a0).bind fun t271 => ((soukref01_bits.f k a1).bind fun t274 => ((soukref01_Times.f k t271 t274).bind fun t277 => ((soukref01_bits.f k a2).bind fun t280 => ((soukref01_Div.f k t277 t280).bind fun bt283 => ((soukref01_Plus.f k bt283.2 bt283.2).bind fun t289 => ((soukref01_trim.f k bt283.2).bind fun t292 => (if (t292.length : Int) = 0 then ((soukref01_bits.f k a2).bind fun t295 => ((soukref01_less.f k t289 t295).bind fun t298 => ((soukref01_bits.f k a2).bind fun t299 => ((soukref01_less.f k t299 t289).bind fun t302 => ((soukref01_value.f k bt283.1 true).bind fun bt303 => (some (bt303.1, bt303.2))))))) else ((soukref01_bits.f k a2).bind fun t305 => ((soukref01_less.f k t289 t305).bind fun t308 => ((soukref01_bits.f k a2).bind fun t309 => ((soukref01_less.f k t309 t289).bind fun t312 => (if a3 = 0 then (soukref01_MulDiv.j0 k a3 true bt283.1 false t308 t312 true) else (if a3 = 1 then (if a3 = 2 then (soukref01_MulDiv.j0 k a3 true bt283.1 false t308 t312 t312) else (soukref01_MulDiv.j0 k a3 true bt283.1 false t308 t312 false)) else (if a3 = 2 then (soukref01_MulDiv.j0 k a3 true bt283.1 false t308 t312 t312) else (soukref01_MulDiv.j0 k a3 true bt283.1 false t308 t312 false)))))))))))))))) else ((soukref01_bits.f k a0).bind fun t324 => ((soukref01_bits.f k a1).bind fun t327 => ((soukref01_Times.f k t324 t327).bind fun t330 => ((soukref01_bits.f k a2).bind fun t333 => ((soukref01_Div.f k t330 t333).bind fun bt336 => ((soukref01_Plus.f k bt336.2 bt336.2).bind fun t342 => ((soukref01_trim.f k bt336.2).bind fun t345 => (if (t345.length : Int) = 0 then ((soukref01_bits.f k a2).bind fun t348 => ((soukref01_less.f k t342 t348).bind fun t351 => ((soukref01_bits.f k a2).bind fun t352 => ((soukref01_less.f k t352 t342).bind fun t355 => ((soukref01_value.f k bt336.1 false).bind fun bt356 => (some (bt356.1, bt356.2))))))) else ((soukref01_bits.f k a2).bind fun t358 => ((soukref01_less.f k t342 t358).bind fun t361 => ((soukref01_bits.f k a2).bind fun t362 => ((soukref01_less.f k t362 t342).bind fun t365 => (if a3 = 0 then (if a3 = 1 then (soukref01_MulDiv.j3 k a3 false bt336.1 false t361 t365 true) else (if a3 = 2 then (soukref01_MulDiv.j3 k a3 false bt336.1 false t361 t365 t365) else (soukref01_MulDiv.j3 k a3 false bt336.1 false t361 t365 false))) else (if a3 = 1 then (soukref01_MulDiv.j3 k a3 false bt336.1 false t361 t365 true) else (if a3 = 2 then (soukref01_MulDiv.j3 k a3 false bt336.1 false t361 t365 t365) else (soukref01_MulDiv.j3 k a3 false bt336.1 false t361 t365 false))))))))))))))))) = some (r1, r2) := h
 clear h
 by_cases c5 : ((decide (a0 < 0)) != (decide (a1 < 0))) = true
 ·rw [if_pos c5] at H
  have c5b0 : ((decide (a0 < 0)) != (decide (a1 < 0))) = true := c5
  (try (have c5b1 : decide ((decide (a0 < 0)) = (decide (a1 < 0))) = false := by simpa using c5))
  (try (have c5b2 : ((decide (a0 < 0)) == (decide (a1 < 0))) = false := by simpa using c5))
  (try (have c5b3 : ¬ ((decide (a0 < 0)) = (decide (a1 < 0))) := by simpa using c5))
  clear c5
  replace H := Option.bind_eq_some_iff.mp H
  obtain ⟨t271, A60, H⟩ := H
  replace H : ((soukref01_bits.f k a1).bind fun t274 => ((soukref01_Times.f k t271 t274).bind fun t277 => ((soukref01_bits.f k a2).bind fun t280 => ((soukref01_Div.f k t277 t280).bind fun bt283 => ((soukref01_Plus.f k bt283.2 bt283.2).bind fun t289 => ((soukref01_trim.f k bt283.2).bind fun t292 => (if (t292.length : Int) = 0 then ((soukref01_bits.f k a2).bind fun t295 => ((soukref01_less.f k t289 t295).bind fun t298 => ((soukref01_bits.f k a2).bind fun t299 => ((soukref01_less.f k t299 t289).bind fun t302 => ((soukref01_value.f k bt283.1 true).bind fun bt303 => (some (bt303.1, bt303.2))))))) else ((soukref01_bits.f k a2).bind fun t305 => ((soukref01_less.f k t289 t305).bind fun t308 => ((soukref01_bits.f k a2).bind fun t309 => ((soukref01_less.f k t309 t289).bind fun t312 => (if a3 = 0 then (soukref01_MulDiv.j0 k a3 true bt283.1 false t308 t312 true) else (if a3 = 1 then (if a3 = 2 then (soukref01_MulDiv.j0 k a3 true bt283.1 false t308 t312 t312) else (soukref01_MulDiv.j0 k a3 true bt283.1 false t308 t312 false)) else (if a3 = 2 then (soukref01_MulDiv.j0 k a3 true bt283.1 false t308 t312 t312) else (soukref01_MulDiv.j0 k a3 true bt283.1 false t308 t312 false))))))))))))))) = some (r1, r2) := H
  have A6 := Aside0.mk A60
  clear A60
  replace H := Option.bind_eq_some_iff.mp H
  obtain ⟨t274, A70, H⟩ := H
  replace H : ((soukref01_Times.f k t271 t274).bind fun t277 => ((soukref01_bits.f k a2).bind fun t280 => ((soukref01_Div.f k t277 t280).bind fun bt283 => ((soukref01_Plus.f k bt283.2 bt283.2).bind fun t289 => ((soukref01_trim.f k bt283.2).bind fun t292 => (if (t292.length : Int) = 0 then ((soukref01_bits.f k a2).bind fun t295 => ((soukref01_less.f k t289 t295).bind fun t298 => ((soukref01_bits.f k a2).bind fun t299 => ((soukref01_less.f k t299 t289).bind fun t302 => ((soukref01_value.f k bt283.1 true).bind fun bt303 => (some (bt303.1, bt303.2))))))) else ((soukref01_bits.f k a2).bind fun t305 => ((soukref01_less.f k t289 t305).bind fun t308 => ((soukref01_bits.f k a2).bind fun t309 => ((soukref01_less.f k t309 t289).bind fun t312 => (if a3 = 0 then (soukref01_MulDiv.j0 k a3 true bt283.1 false t308 t312 true) else (if a3 = 1 then (if a3 = 2 then (soukref01_MulDiv.j0 k a3 true bt283.1 false t308 t312 t312) else (soukref01_MulDiv.j0 k a3 true bt283.1 false t308 t312 false)) else (if a3 = 2 then (soukref01_MulDiv.j0 k a3 true bt283.1 false t308 t312 t312) else (soukref01_MulDiv.j0 k a3 true bt283.1 false t308 t312 false)))))))))))))) = some (r1, r2) := H
  have A7 := Aside0.mk A70
  clear A70
  replace H := Option.bind_eq_some_iff.mp H
  obtain ⟨t277, A80, H⟩ := H
  replace H : ((soukref01_bits.f k a2).bind fun t280 => ((soukref01_Div.f k t277 t280).bind fun bt283 => ((soukref01_Plus.f k bt283.2 bt283.2).bind fun t289 => ((soukref01_trim.f k bt283.2).bind fun t292 => (if (t292.length : Int) = 0 then ((soukref01_bits.f k a2).bind fun t295 => ((soukref01_less.f k t289 t295).bind fun t298 => ((soukref01_bits.f k a2).bind fun t299 => ((soukref01_less.f k t299 t289).bind fun t302 => ((soukref01_value.f k bt283.1 true).bind fun bt303 => (some (bt303.1, bt303.2))))))) else ((soukref01_bits.f k a2).bind fun t305 => ((soukref01_less.f k t289 t305).bind fun t308 => ((soukref01_bits.f k a2).bind fun t309 => ((soukref01_less.f k t309 t289).bind fun t312 => (if a3 = 0 then (soukref01_MulDiv.j0 k a3 true bt283.1 false t308 t312 true) else (if a3 = 1 then (if a3 = 2 then (soukref01_MulDiv.j0 k a3 true bt283.1 false t308 t312 t312) else (soukref01_MulDiv.j0 k a3 true bt283.1 false t308 t312 false)) else (if a3 = 2 then (soukref01_MulDiv.j0 k a3 true bt283.1 false t308 t312 t312) else (soukref01_MulDiv.j0 k a3 true bt283.1 false t308 t312 false))))))))))))) = some (r1, r2) := H
  have A8 := Aside0.mk A80
  clear A80
  replace H := Option.bind_eq_some_iff.mp H
  obtain ⟨t280, A90, H⟩ := H
  replace H : ((soukref01_Div.f k t277 t280).bind fun bt283 => ((soukref01_Plus.f k bt283.2 bt283.2).bind fun t289 => ((soukref01_trim.f k bt283.2).bind fun t292 => (if (t292.length : Int) = 0 then ((soukref01_bits.f k a2).bind fun t295 => ((soukref01_less.f k t289 t295).bind fun t298 => ((soukref01_bits.f k a2).bind fun t299 => ((soukref01_less.f k t299 t289).bind fun t302 => ((soukref01_value.f k bt283.1 true).bind fun bt303 => (some (bt303.1, bt303.2))))))) else ((soukref01_bits.f k a2).bind fun t305 => ((soukref01_less.f k t289 t305).bind fun t308 => ((soukref01_bits.f k a2).bind fun t309 => ((soukref01_less.f k t309 t289).bind fun t312 => (if a3 = 0 then (soukref01_MulDiv.j0 k a3 true bt283.1 false t308 t312 true) else (if a3 = 1 then (if a3 = 2 then (soukref01_MulDiv.j0 k a3 true bt283.1 false t308 t312 t312) else (soukref01_MulDiv.j0 k a3 true bt283.1 false t308 t312 false)) else (if a3 = 2 then (soukref01_MulDiv.j0 k a3 true bt283.1 false t308 t312 t312) else (soukref01_MulDiv.j0 k a3 true bt283.1 false t308 t312 false)))))))))))) = some (r1, r2) := H
  have A9 := Aside0.mk A90
  clear A90
  replace H := Option.bind_eq_some_iff.mp H
  obtain ⟨⟨t283, t284⟩, A100, H⟩ := H
  replace H : ((soukref01_Plus.f k t284 t284).bind fun t289 => ((soukref01_trim.f k t284).bind fun t292 => (if (t292.length : Int) = 0 then ((soukref01_bits.f k a2).bind fun t295 => ((soukref01_less.f k t289 t295).bind fun t298 => ((soukref01_bits.f k a2).bind fun t299 => ((soukref01_less.f k t299 t289).bind fun t302 => ((soukref01_value.f k t283 true).bind fun bt303 => (some (bt303.1, bt303.2))))))) else ((soukref01_bits.f k a2).bind fun t305 => ((soukref01_less.f k t289 t305).bind fun t308 => ((soukref01_bits.f k a2).bind fun t309 => ((soukref01_less.f k t309 t289).bind fun t312 => (if a3 = 0 then (soukref01_MulDiv.j0 k a3 true t283 false t308 t312 true) else (if a3 = 1 then (if a3 = 2 then (soukref01_MulDiv.j0 k a3 true t283 false t308 t312 t312) else (soukref01_MulDiv.j0 k a3 true t283 false t308 t312 false)) else (if a3 = 2 then (soukref01_MulDiv.j0 k a3 true t283 false t308 t312 t312) else (soukref01_MulDiv.j0 k a3 true t283 false t308 t312 false))))))))))) = some (r1, r2) := H
  have A10 := Aside0.mk A100
  clear A100
  replace H := Option.bind_eq_some_iff.mp H
  obtain ⟨t289, A110, H⟩ := H
  replace H : ((soukref01_trim.f k t284).bind fun t292 => (if (t292.length : Int) = 0 then ((soukref01_bits.f k a2).bind fun t295 => ((soukref01_less.f k t289 t295).bind fun t298 => ((soukref01_bits.f k a2).bind fun t299 => ((soukref01_less.f k t299 t289).bind fun t302 => ((soukref01_value.f k t283 true).bind fun bt303 => (some (bt303.1, bt303.2))))))) else ((soukref01_bits.f k a2).bind fun t305 => ((soukref01_less.f k t289 t305).bind fun t308 => ((soukref01_bits.f k a2).bind fun t309 => ((soukref01_less.f k t309 t289).bind fun t312 => (if a3 = 0 then (soukref01_MulDiv.j0 k a3 true t283 false t308 t312 true) else (if a3 = 1 then (if a3 = 2 then (soukref01_MulDiv.j0 k a3 true t283 false t308 t312 t312) else (soukref01_MulDiv.j0 k a3 true t283 false t308 t312 false)) else (if a3 = 2 then (soukref01_MulDiv.j0 k a3 true t283 false t308 t312 t312) else (soukref01_MulDiv.j0 k a3 true t283 false t308 t312 false)))))))))) = some (r1, r2) := H
  have A11 := Aside0.mk A110
  clear A110
  replace H := Option.bind_eq_some_iff.mp H
  obtain ⟨t292, A120, H⟩ := H
  replace H : (if (t292.length : Int) = 0 then ((soukref01_bits.f k a2).bind fun t295 => ((soukref01_less.f k t289 t295).bind fun t298 => ((soukref01_bits.f k a2).bind fun t299 => ((soukref01_less.f k t299 t289).bind fun t302 => ((soukref01_value.f k t283 true).bind fun bt303 => (some (bt303.1, bt303.2))))))) else ((soukref01_bits.f k a2).bind fun t305 => ((soukref01_less.f k t289 t305).bind fun t308 => ((soukref01_bits.f k a2).bind fun t309 => ((soukref01_less.f k t309 t289).bind fun t312 => (if a3 = 0 then (soukref01_MulDiv.j0 k a3 true t283 false t308 t312 true) else (if a3 = 1 then (if a3 = 2 then (soukref01_MulDiv.j0 k a3 true t283 false t308 t312 t312) else (soukref01_MulDiv.j0 k a3 true t283 false t308 t312 false)) else (if a3 = 2 then (soukref01_MulDiv.j0 k a3 true t283 false t308 t312 t312) else (soukref01_MulDiv.j0 k a3 true t283 false t308 t312 false))))))))) = some (r1, r2) := H
  have A12 := Aside0.mk A120
  clear A120
  by_cases c13 : (t292.length : Int) = 0
  ·rw [if_pos c13] at H
   have c13b0 : ((t292.length : Int) == 0) = true := beq_iff_eq.mpr c13
   have c13b1 : ((t292.length : Int) != 0) = false := bne_eq_false_iff_eq.mpr c13
   clear c13
   replace H := Option.bind_eq_some_iff.mp H
   obtain ⟨t295, A140, H⟩ := H
   replace H : ((soukref01_less.f k t289 t295).bind fun t298 => ((soukref01_bits.f k a2).bind fun t299 => ((soukref01_less.f k t299 t289).bind fun t302 => ((soukref01_value.f k t283 true).bind fun bt303 => (some (bt303.1, bt303.2)))))) = some (r1, r2) := H
   have A14 := Aside0.mk A140
   clear A140
   replace H := Option.bind_eq_some_iff.mp H
   obtain ⟨t298, A150, H⟩ := H
   replace H : ((soukref01_bits.f k a2).bind fun t299 => ((soukref01_less.f k t299 t289).bind fun t302 => ((soukref01_value.f k t283 true).bind fun bt303 => (some (bt303.1, bt303.2))))) = some (r1, r2) := H
   have A15 := Aside0.mk A150
   clear A150
   replace H := Option.bind_eq_some_iff.mp H
   obtain ⟨t299, A160, H⟩ := H
   replace H : ((soukref01_less.f k t299 t289).bind fun t302 => ((soukref01_value.f k t283 true).bind fun bt303 => (some (bt303.1, bt303.2)))) = some (r1, r2) := H
   have A16 := Aside0.mk A160
   clear A160
   replace H := Option.bind_eq_some_iff.mp H
   obtain ⟨t302, A170, H⟩ := H
   replace H : ((soukref01_value.f k t283 true).bind fun bt303 => (some (bt303.1, bt303.2))) = some (r1, r2) := H
   have A17 := Aside0.mk A170
   clear A170
   replace H := Option.bind_eq_some_iff.mp H
   obtain ⟨⟨t303, t304⟩, A180, H⟩ := H
   replace H : (some (t303, t304)) = some (r1, r2) := H
   have A18 := Aside0.mk A180
   clear A180
   simp only [Option.some.injEq, Prod.mk.injEq] at H
   obtain ⟨rfl, rfl⟩ := H
   go_enter Try.func19, Try.ntmps19
   go_wp2_with (first | ((with_reducible refine gate_callee (f := 44) rfl ?_); refine goesL_ (some 25) rfl rfl Try.func44 (by kernel_rfl) rfl #[.int .i64 a0] rfl (by (try simp only [List.map_toArray, List.map_cons, List.map_nil]); first | done | rfl | (simp only [List.length_drop, List.length_take]; rfl)) ?_; (with_reducible refine (soukref01_bits.calls k a0 t271 _ A6.out).mono ?_); rintro e w19 ⟨v272, rfl, ho0, hb⟩; refine ⟨_, rfl, ?_⟩; have n0_ := Aside0.mk (Kd.R_lower ho0 (below_size (by repeat (first | (with_reducible first | exact HB.out | apply below_alloc | apply pw_below_drewN | apply below_drew1) | exact HB.out)))); have n1_ := Aside0.mk (below_step (by repeat (first | (with_reducible first | exact HB.out | apply below_alloc | apply pw_below_drewN | apply below_drew1) | exact HB.out)) hb); clear HB; have HO273 := n0_; have HB := n1_; clear n0_ n1_; (try clear hb); (try clear hb2); (try clear hk); (try clear hi); (try clear ho0)) | ((with_reducible refine gate_callee (f := 44) rfl ?_); refine goesL_ (some 27) rfl rfl Try.func44 (by kernel_rfl) rfl #[.int .i64 a1] rfl (by (try simp only [List.map_toArray, List.map_cons, List.map_nil]); first | done | rfl | (simp only [List.length_drop, List.length_take]; rfl)) ?_; (with_reducible refine (soukref01_bits.calls k a1 t274 _ A7.out).mono ?_); rintro e w20 ⟨v275, rfl, ho0, hb⟩; refine ⟨_, rfl, ?_⟩; have n0_ := Aside0.mk (Kd.R_elder' (by (with_reducible repeat (first | apply Kd.R_alloc | apply Kd.R_drewN | apply Kd.R_drew)); exact HO273.out) (Kd.R_base ho0) hb); have n1_ := Aside0.mk (Kd.R_lower (Kd.R_new' ho0 (Kd.R_lt (by (with_reducible repeat (first | apply Kd.R_alloc | apply Kd.R_drewN | apply Kd.R_drew)); exact HO273.out))) (below_size (by repeat (first | (with_reducible first | exact HB.out | apply below_alloc | apply pw_below_drewN | apply below_drew1) | exact HB.out)))); have n2_ := Aside0.mk (below_step (by repeat (first | (with_reducible first | exact HB.out | apply below_alloc | apply pw_below_drewN | apply below_drew1) | exact HB.out)) hb); clear HO273; clear HB; have HO273 := n0_; have HO276 := n1_; have HB := n2_; clear n0_ n1_ n2_; (try clear hb); (try clear hb2); (try clear hk); (try clear hi); (try clear ho0); obtain ⟨Ao21, co21, eo21⟩ := Kd.R_slice HO273.out; subst eo21; obtain ⟨Ao22, co22, eo22⟩ := Kd.R_slice HO276.out; subst eo22) | ((with_reducible refine gate_callee (f := 43) rfl ?_); refine goesL_ (some 28) rfl rfl Try.func43 (by kernel_rfl) rfl #[.slice Ao21 t271.length co21, .slice Ao22 t274.length co22] rfl (by (try simp only [List.map_toArray, List.map_cons, List.map_nil]); first | done | rfl | (simp only [List.length_drop, List.length_take]; rfl)) ?_; (with_reducible refine (soukref01_Times.calls k _ _ t271 _ _ t274 t277 _ ?side1 ?side2 ?side3 ?side4 A8.out).mono ?_); (case side1 => repeat (first | exact (Kd.R_reads' HO273.out).2.2 | (with_reducible refine Kd.C_alloc ?_ _) | (with_reducible refine Kd.C_drewN ?_ _) | (with_reducible refine Kd.C_drew ?_))); (case side2 => exact (Kd.R_reads' HO273.out).2.1); (case side3 => repeat (first | exact (Kd.R_reads' HO276.out).2.2 | (with_reducible refine Kd.C_alloc ?_ _) | (with_reducible refine Kd.C_drewN ?_ _) | (with_reducible refine Kd.C_drew ?_))); (case side4 => exact (Kd.R_reads' HO276.out).2.1); rintro e w23 ⟨v278, rfl, ho0, hb⟩; refine ⟨_, rfl, ?_⟩; have n0_ := Aside0.mk (Kd.R_elder' (by (with_reducible repeat (first | apply Kd.R_alloc | apply Kd.R_drewN | apply Kd.R_drew)); exact HO273.out) (Kd.R_base ho0) hb); have n1_ := Aside0.mk (Kd.R_elder' (by (with_reducible repeat (first | apply Kd.R_alloc | apply Kd.R_drewN | apply Kd.R_drew)); exact HO276.out) (Kd.R_base ho0) hb); have n2_ := Aside0.mk (Kd.R_lower (Kd.R_new' (Kd.R_new' ho0 (Kd.R_lt (by (with_reducible repeat (first | apply Kd.R_alloc | apply Kd.R_drewN | apply Kd.R_drew)); exact HO273.out))) (Kd.R_lt (by (with_reducible repeat (first | apply Kd.R_alloc | apply Kd.R_drewN | apply Kd.R_drew)); exact HO276.out))) (below_size (by repeat (first | (with_reducible first | exact HB.out | apply below_alloc | apply pw_below_drewN | apply below_drew1) | exact HB.out)))); have n3_ := Aside0.mk (below_step (by repeat (first | (with_reducible first | exact HB.out | apply below_alloc | apply pw_below_drewN | apply below_drew1) | exact HB.out)) hb); clear HO273; clear HO276; clear HB; have HO273 := n0_; have HO276 := n1_; have HO279 := n2_; have HB := n3_; clear n0_ n1_ n2_ n3_; (try clear hb); (try clear hb2); (try clear hk); (try clear hi); (try clear ho0)) | ((with_reducible refine gate_callee (f := 44) rfl ?_); refine goesL_ (some 30) rfl rfl Try.func44 (by kernel_rfl) rfl #[.int .i64 a2] rfl (by (try simp only [List.map_toArray, List.map_cons, List.map_nil]); first | done | rfl | (simp only [List.length_drop, List.length_take]; rfl)) ?_; (with_reducible refine (soukref01_bits.calls k a2 t280 _ A9.out).mono ?_); rintro e w24 ⟨v281, rfl, ho0, hb⟩; refine ⟨_, rfl, ?_⟩; have n0_ := Aside0.mk (Kd.R_elder' (by (with_reducible repeat (first | apply Kd.R_alloc | apply Kd.R_drewN | apply Kd.R_drew)); exact HO273.out) (Kd.R_base ho0) hb); have n1_ := Aside0.mk (Kd.R_elder' (by (with_reducible repeat (first | apply Kd.R_alloc | apply Kd.R_drewN | apply Kd.R_drew)); exact HO276.out) (Kd.R_base ho0) hb); have n2_ := Aside0.mk (Kd.R_elder' (by (with_reducible repeat (first | apply Kd.R_alloc | apply Kd.R_drewN | apply Kd.R_drew)); exact HO279.out) (Kd.R_base ho0) hb); have n3_ := Aside0.mk (Kd.R_lower (Kd.R_new' (Kd.R_new' (Kd.R_new' ho0 (Kd.R_lt (by (with_reducible repeat (first | apply Kd.R_alloc | apply Kd.R_drewN | apply Kd.R_drew)); exact HO273.out))) (Kd.R_lt (by (with_reducible repeat (first | apply Kd.R_alloc | apply Kd.R_drewN | apply Kd.R_drew)); exact HO276.out))) (Kd.R_lt (by (with_reducible repeat (first | apply Kd.R_alloc | apply Kd.R_drewN | apply Kd.R_drew)); exact HO279.out))) (below_size (by repeat (first | (with_reducible first | exact HB.out | apply below_alloc | apply pw_below_drewN | apply below_drew1) | exact HB.out)))); have n4_ := Aside0.mk (below_step (by repeat (first | (with_reducible first | exact HB.out | apply below_alloc | apply pw_below_drewN | apply below_drew1) | exact HB.out)) hb); clear HO273; clear HO276; clear HO279; clear HB; have HO273 := n0_; have HO276 := n1_; have HO279 := n2_; have HO282 := n3_; have HB := n4_; clear n0_ n1_ n2_ n3_ n4_; (try clear hb); (try clear hb2); (try clear hk); (try clear hi); (try clear ho0); obtain ⟨Ao25, co25, eo25⟩ := Kd.R_slice HO279.out; subst eo25; obtain ⟨Ao26, co26, eo26⟩ := Kd.R_slice HO282.out; subst eo26) | ((with_reducible refine gate_callee (f := 42) rfl ?_); refine goesL_ (some 31) rfl rfl Try.func42 (by kernel_rfl) rfl #[.slice Ao25 t277.length co25, .slice Ao26 t280.length co26] rfl (by (try simp only [List.map_toArray, List.map_cons, List.map_nil]); first | done | rfl | (simp only [List.length_drop, List.length_take]; rfl)) ?_; (with_reducible refine (soukref01_Div.calls k _ _ t277 _ _ t280 t283 t284 _ ?side1 ?side2 ?side3 ?side4 A10.out).mono ?_); (case side1 => repeat (first | exact (Kd.R_reads' HO279.out).2.2 | (with_reducible refine Kd.C_alloc ?_ _) | (with_reducible refine Kd.C_drewN ?_ _) | (with_reducible refine Kd.C_drew ?_))); (case side2 => exact (Kd.R_reads' HO279.out).2.1); (case side3 => repeat (first | exact (Kd.R_reads' HO282.out).2.2 | (with_reducible refine Kd.C_alloc ?_ _) | (with_reducible refine Kd.C_drewN ?_ _) | (with_reducible refine Kd.C_drew ?_))); (case side4 => exact (Kd.R_reads' HO282.out).2.1); rintro e w27 ⟨v285, v287, rfl, ho0, ho1, hb⟩; refine ⟨_, rfl, ?_⟩; have n0_ := Aside0.mk (Kd.R_mono (Kd.R_told (Kd.R_told (Kd.R_old (by (with_reducible repeat (first | apply Kd.R_alloc | apply Kd.R_drewN | apply Kd.R_drew)); exact HO273.out) hb) (Kd.R_base ho0)) (Kd.R_base ho1)) (fun _ h_ => h_.1)); have n1_ := Aside0.mk (Kd.R_mono (Kd.R_told (Kd.R_told (Kd.R_old (by (with_reducible repeat (first | apply Kd.R_alloc | apply Kd.R_drewN | apply Kd.R_drew)); exact HO276.out) hb) (Kd.R_base ho0)) (Kd.R_base ho1)) (fun _ h_ => h_.1)); have n2_ := Aside0.mk (Kd.R_mono (Kd.R_told (Kd.R_told (Kd.R_old (by (with_reducible repeat (first | apply Kd.R_alloc | apply Kd.R_drewN | apply Kd.R_drew)); exact HO279.out) hb) (Kd.R_base ho0)) (Kd.R_base ho1)) (fun _ h_ => h_.1)); have n3_ := Aside0.mk (Kd.R_mono (Kd.R_told (Kd.R_told (Kd.R_old (by (with_reducible repeat (first | apply Kd.R_alloc | apply Kd.R_drewN | apply Kd.R_drew)); exact HO282.out) hb) (Kd.R_base ho0)) (Kd.R_base ho1)) (fun _ h_ => h_.1)); have n4_ := Aside0.mk (Kd.R_lower (Kd.R_new' (Kd.R_new' (Kd.R_new' (Kd.R_new' ho0 (Kd.R_lt (by (with_reducible repeat (first | apply Kd.R_alloc | apply Kd.R_drewN | apply Kd.R_drew)); exact HO273.out))) (Kd.R_lt (by (with_reducible repeat (first | apply Kd.R_alloc | apply Kd.R_drewN | apply Kd.R_drew)); exact HO276.out))) (Kd.R_lt (by (with_reducible repeat (first | apply Kd.R_alloc | apply Kd.R_drewN | apply Kd.R_drew)); exact HO279.out))) (Kd.R_lt (by (with_reducible repeat (first | apply Kd.R_alloc | apply Kd.R_drewN | apply Kd.R_drew)); exact HO282.out))) (below_size (by repeat (first | (with_reducible first | exact HB.out | apply below_alloc | apply pw_below_drewN | apply below_drew1) | exact HB.out)))); have n5_ := Aside0.mk (Kd.R_lower (Kd.R_new' (Kd.R_new' (Kd.R_new' (Kd.R_new' ho1 (Kd.R_lt (by (with_reducible repeat (first | apply Kd.R_alloc | apply Kd.R_drewN | apply Kd.R_drew)); exact HO273.out))) (Kd.R_lt (by (with_reducible repeat (first | apply Kd.R_alloc | apply Kd.R_drewN | apply Kd.R_drew)); exact HO276.out))) (Kd.R_lt (by (with_reducible repeat (first | apply Kd.R_alloc | apply Kd.R_drewN | apply Kd.R_drew)); exact HO279.out))) (Kd.R_lt (by (with_reducible repeat (first | apply Kd.R_alloc | apply Kd.R_drewN | apply Kd.R_drew)); exact HO282.out))) (below_size (by repeat (first | (with_reducible first | exact HB.out | apply below_alloc | apply pw_below_drewN | apply below_drew1) | exact HB.out)))); have n6_ := Aside0.mk (below_step (by repeat (first | (with_reducible first | exact HB.out | apply below_alloc | apply pw_below_drewN | apply below_drew1) | exact HB.out)) hb); clear HO273; clear HO276; clear HO279; clear HO282; clear HB; have HO273 := n0_; have HO276 := n1_; have HO279 := n2_; have HO282 := n3_; have HO286 := n4_; have HO288 := n5_; have HB := n6_; clear n0_ n1_ n2_ n3_ n4_ n5_ n6_; (try clear hb); (try clear hb2); (try clear hk); (try clear hi); (try clear ho0); (try clear ho1); obtain ⟨Ao28, co28, eo28⟩ := Kd.R_slice HO288.out; subst eo28) | ((with_reducible refine gate_callee (f := 45) rfl ?_); refine goesL_ (some 36) rfl rfl Try.func45 (by kernel_rfl) rfl #[.slice Ao28 t284.length co28, .slice Ao28 t284.length co28] rfl (by (try simp only [List.map_toArray, List.map_cons, List.map_nil]); first | done | rfl | (simp only [List.length_drop, List.length_take]; rfl)) ?_; (with_reducible refine (soukref01_Plus.calls k _ _ t284 _ _ t284 t289 _ ?side1 ?side2 ?side3 ?side4 A11.out).mono ?_); (case side1 => repeat (first | exact (Kd.R_reads' HO288.out).2.2 | (with_reducible refine Kd.C_alloc ?_ _) | (with_reducible refine Kd.C_drewN ?_ _) | (with_reducible refine Kd.C_drew ?_))); (case side2 => exact (Kd.R_reads' HO288.out).2.1); (case side3 => repeat (first | exact (Kd.R_reads' HO288.out).2.2 | (with_reducible refine Kd.C_alloc ?_ _) | (with_reducible refine Kd.C_drewN ?_ _) | (with_reducible refine Kd.C_drew ?_))); (case side4 => exact (Kd.R_reads' HO288.out).2.1); rintro e w29 ⟨v290, rfl, ho0, hb⟩; refine ⟨_, rfl, ?_⟩; have n0_ := Aside0.mk (Kd.R_elder' (by (with_reducible repeat (first | apply Kd.R_alloc | apply Kd.R_drewN | apply Kd.R_drew)); exact HO273.out) (Kd.R_base ho0) hb); have n1_ := Aside0.mk (Kd.R_elder' (by (with_reducible repeat (first | apply Kd.R_alloc | apply Kd.R_drewN | apply Kd.R_drew)); exact HO276.out) (Kd.R_base ho0) hb); have n2_ := Aside0.mk (Kd.R_elder' (by (with_reducible repeat (first | apply Kd.R_alloc | apply Kd.R_drewN | apply Kd.R_drew)); exact HO279.out) (Kd.R_base ho0) hb); have n3_ := Aside0.mk (Kd.R_elder' (by (with_reducible repeat (first | apply Kd.R_alloc | apply Kd.R_drewN | apply Kd.R_drew)); exact HO282.out) (Kd.R_base ho0) hb); have n4_ := Aside0.mk (Kd.R_elder' (by (with_reducible repeat (first | apply Kd.R_alloc | apply Kd.R_drewN | apply Kd.R_drew)); exact HO286.out) (Kd.R_base ho0) hb); have n5_ := Aside0.mk (Kd.R_elder' (by (with_reducible repeat (first | apply Kd.R_alloc | apply Kd.R_drewN | apply Kd.R_drew)); exact HO288.out) (Kd.R_base ho0) hb); have n6_ := Aside0.mk (Kd.R_lower (Kd.R_new' (Kd.R_new' (Kd.R_new' (Kd.R_new' (Kd.R_new' (Kd.R_new' ho0 (Kd.R_lt (by (with_reducible repeat (first | apply Kd.R_alloc | apply Kd.R_drewN | apply Kd.R_drew)); exact HO273.out))) (Kd.R_lt (by (with_reducible repeat (first | apply Kd.R_alloc | apply Kd.R_drewN | apply Kd.R_drew)); exact HO276.out))) (Kd.R_lt (by (with_reducible repeat (first | apply Kd.R_alloc | apply Kd.R_drewN | apply Kd.R_drew)); exact HO279.out))) (Kd.R_lt (by (with_reducible repeat (first | apply Kd.R_alloc | apply Kd.R_drewN | apply Kd.R_drew)); exact HO282.out))) (Kd.R_lt (by (with_reducible repeat (first | apply Kd.R_alloc | apply Kd.R_drewN | apply Kd.R_drew)); exact HO286.out))) (Kd.R_lt (by (with_reducible repeat (first | apply Kd.R_alloc | apply Kd.R_drewN | apply Kd.R_drew)); exact HO288.out))) (below_size (by repeat (first | (with_reducible first | exact HB.out | apply below_alloc | apply pw_below_drewN | apply below_drew1) | exact HB.out)))); have n7_ := Aside0.mk (below_step (by repeat (first | (with_reducible first | exact HB.out | apply below_alloc | apply pw_below_drewN | apply below_drew1) | exact HB.out)) hb); clear HO273; clear HO276; clear HO279; clear HO282; clear HO286; clear HO288; clear HB; have HO273 := n0_; have HO276 := n1_; have HO279 := n2_; have HO282 := n3_; have HO286 := n4_; have HO288 := n5_; have HO291 := n6_; have HB := n7_; clear n0_ n1_ n2_ n3_ n4_ n5_ n6_ n7_; (try clear hb); (try clear hb2); (try clear hk); (try clear hi); (try clear ho0)) | ((with_reducible refine gate_callee (f := 46) rfl ?_); refine goesL_ (some 38) rfl rfl Try.func46 (by kernel_rfl) rfl #[.slice Ao28 t284.length co28] rfl (by (try simp only [List.map_toArray, List.map_cons, List.map_nil]); first | done | rfl | (simp only [List.length_drop, List.length_take]; rfl)) ?_; (with_reducible refine (soukref01_trim.calls k (fun k_ => some k_ = (.slice Ao28 t284.length co28 : Value).ownBlock) (.slice Ao28 t284.length co28) t284 t292 w _ ?side1 ?side2 A12.out).mono ?_); (case side1 => repeat (first | (with_reducible first | exact HB.out | apply below_alloc | apply pw_below_drewN | apply below_drew1) | exact HB.out)); (case side2 => exact Kd.R_tight rfl HO288.out); rintro e w30 ⟨v293, rfl, ho0, hb, hkp⟩; refine ⟨_, rfl, ?_⟩; have n0_ := Aside0.mk (Kd.R_mono (ok' := fun k_ => some k_ ≠ (.slice Ao22 t274.length co22 : Value).ownBlock ∧ some k_ ≠ (.slice Ao25 t277.length co25 : Value).ownBlock ∧ some k_ ≠ (.slice Ao26 t280.length co26 : Value).ownBlock ∧ some k_ ≠ (v285 : Value).ownBlock ∧ some k_ ≠ (v290 : Value).ownBlock ∧ some k_ ≠ (v293 : Value).ownBlock) (Kd.R_keptB (HO273.out) hkp (fun k_ hk_ hs_ => (hk_.1.2) hs_)) (fun k_ hk_ => ⟨hk_.1.1.1.1.1.1.2, hk_.1.1.1.1.1.2, hk_.1.1.1.1.2, hk_.1.1.1.2, hk_.1.2, fun e_ => Or.elim (ho0.1 k_ e_.symm) (fun hs_ => hk_.2.1 hs_) (fun hn_ => Nat.not_le.2 hk_.2.2 hn_)⟩)); have n1_ := Aside0.mk (Kd.R_mono (ok' := fun k_ => some k_ ≠ (.slice Ao21 t271.length co21 : Value).ownBlock ∧ some k_ ≠ (.slice Ao25 t277.length co25 : Value).ownBlock ∧ some k_ ≠ (.slice Ao26 t280.length co26 : Value).ownBlock ∧ some k_ ≠ (v285 : Value).ownBlock ∧ some k_ ≠ (v290 : Value).ownBlock ∧ some k_ ≠ (v293 : Value).ownBlock) (Kd.R_keptB (HO276.out) hkp (fun k_ hk_ hs_ => (hk_.1.2) hs_)) (fun k_ hk_ => ⟨hk_.1.1.1.1.1.1.2, hk_.1.1.1.1.1.2, hk_.1.1.1.1.2, hk_.1.1.1.2, hk_.1.2, fun e_ => Or.elim (ho0.1 k_ e_.symm) (fun hs_ => hk_.2.1 hs_) (fun hn_ => Nat.not_le.2 hk_.2.2 hn_)⟩)); have n2_ := Aside0.mk (Kd.R_mono (ok' := fun k_ => some k_ ≠ (.slice Ao21 t271.length co21 : Value).ownBlock ∧ some k_ ≠ (.slice Ao22 t274.length co22 : Value).ownBlock ∧ some k_ ≠ (.slice Ao26 t280.length co26 : Value).ownBlock ∧ some k_ ≠ (v285 : Value).ownBlock ∧ some k_ ≠ (v290 : Value).ownBlock ∧ some k_ ≠ (v293 : Value).ownBlock) (Kd.R_keptB (HO279.out) hkp (fun k_ hk_ hs_ => (hk_.1.2) hs_)) (fun k_ hk_ => ⟨hk_.1.1.1.1.1.1.2, hk_.1.1.1.1.1.2, hk_.1.1.1.1.2, hk_.1.1.1.2, hk_.1.2, fun e_ => Or.elim (ho0.1 k_ e_.symm) (fun hs_ => hk_.2.1 hs_) (fun hn_ => Nat.not_le.2 hk_.2.2 hn_)⟩)); have n3_ := Aside0.mk (Kd.R_mono (ok' := fun k_ => some k_ ≠ (.slice Ao21 t271.length co21 : Value).ownBlock ∧ some k_ ≠ (.slice Ao22 t274.length co22 : Value).ownBlock ∧ some k_ ≠ (.slice Ao25 t277.length co25 : Value).ownBlock ∧ some k_ ≠ (v285 : Value).ownBlock ∧ some k_ ≠ (v290 : Value).ownBlock ∧ some k_ ≠ (v293 : Value).ownBlock) (Kd.R_keptB (HO282.out) hkp (fun k_ hk_ hs_ => (hk_.1.2) hs_)) (fun k_ hk_ => ⟨hk_.1.1.1.1.1.1.2, hk_.1.1.1.1.1.2, hk_.1.1.1.1.2, hk_.1.1.1.2, hk_.1.2, fun e_ => Or.elim (ho0.1 k_ e_.symm) (fun hs_ => hk_.2.1 hs_) (fun hn_ => Nat.not_le.2 hk_.2.2 hn_)⟩)); have n4_ := Aside0.mk (Kd.R_mono (ok' := fun k_ => some k_ ≠ (.slice Ao21 t271.length co21 : Value).ownBlock ∧ some k_ ≠ (.slice Ao22 t274.length co22 : Value).ownBlock ∧ some k_ ≠ (.slice Ao25 t277.length co25 : Value).ownBlock ∧ some k_ ≠ (.slice Ao26 t280.length co26 : Value).ownBlock ∧ some k_ ≠ (v290 : Value).ownBlock ∧ some k_ ≠ (v293 : Value).ownBlock) (Kd.R_keptB (HO286.out) hkp (fun k_ hk_ hs_ => (hk_.1.1.1.1.1) hs_)) (fun k_ hk_ => ⟨hk_.1.1.1.1.1.2, hk_.1.1.1.1.2, hk_.1.1.1.2, hk_.1.1.2, hk_.1.2, fun e_ => Or.elim (ho0.1 k_ e_.symm) (fun hs_ => hk_.2.1 hs_) (fun hn_ => Nat.not_le.2 hk_.2.2 hn_)⟩)); have n5_ := Aside0.mk (Kd.R_mono (ok' := fun k_ => some k_ ≠ (.slice Ao21 t271.length co21 : Value).ownBlock ∧ some k_ ≠ (.slice Ao22 t274.length co22 : Value).ownBlock ∧ some k_ ≠ (.slice Ao25 t277.length co25 : Value).ownBlock ∧ some k_ ≠ (.slice Ao26 t280.length co26 : Value).ownBlock ∧ some k_ ≠ (v285 : Value).ownBlock ∧ some k_ ≠ (v293 : Value).ownBlock) (Kd.R_keptB (HO291.out) hkp (fun k_ hk_ hs_ => (hk_.2) hs_)) (fun k_ hk_ => ⟨hk_.1.1.1.1.1.1.2, hk_.1.1.1.1.1.2, hk_.1.1.1.1.2, hk_.1.1.1.2, hk_.1.1.2, fun e_ => Or.elim (ho0.1 k_ e_.symm) (fun hs_ => hk_.2.1 hs_) (fun hn_ => Nat.not_le.2 hk_.2.2 hn_)⟩)); have n6_ := Aside0.mk (Kd.R_mono (ok' := fun k_ => some k_ ≠ (.slice Ao21 t271.length co21 : Value).ownBlock ∧ some k_ ≠ (.slice Ao22 t274.length co22 : Value).ownBlock ∧ some k_ ≠ (.slice Ao25 t277.length co25 : Value).ownBlock ∧ some k_ ≠ (.slice Ao26 t280.length co26 : Value).ownBlock ∧ some k_ ≠ (v285 : Value).ownBlock ∧ some k_ ≠ (v290 : Value).ownBlock) ho0 (fun k_ hk_ => ⟨Or.elim hk_ (fun hs_ => fun e_ => (((HO273.out).1 k_ e_.symm).1.2) hs_) (fun hn_ => (Kd.fresh' (Kd.R_lt (by (with_reducible repeat (first | apply Kd.R_alloc | apply Kd.R_drewN | apply Kd.R_drew)); exact HO273.out)) k_ hn_)), Or.elim hk_ (fun hs_ => fun e_ => (((HO276.out).1 k_ e_.symm).1.2) hs_) (fun hn_ => (Kd.fresh' (Kd.R_lt (by (with_reducible repeat (first | apply Kd.R_alloc | apply Kd.R_drewN | apply Kd.R_drew)); exact HO276.out)) k_ hn_)), Or.elim hk_ (fun hs_ => fun e_ => (((HO279.out).1 k_ e_.symm).1.2) hs_) (fun hn_ => (Kd.fresh' (Kd.R_lt (by (with_reducible repeat (first | apply Kd.R_alloc | apply Kd.R_drewN | apply Kd.R_drew)); exact HO279.out)) k_ hn_)), Or.elim hk_ (fun hs_ => fun e_ => (((HO282.out).1 k_ e_.symm).1.2) hs_) (fun hn_ => (Kd.fresh' (Kd.R_lt (by (with_reducible repeat (first | apply Kd.R_alloc | apply Kd.R_drewN | apply Kd.R_drew)); exact HO282.out)) k_ hn_)), Or.elim hk_ (fun hs_ => fun e_ => (((HO286.out).1 k_ e_.symm).1.1.1.1.1) hs_) (fun hn_ => (Kd.fresh' (Kd.R_lt (by (with_reducible repeat (first | apply Kd.R_alloc | apply Kd.R_drewN | apply Kd.R_drew)); exact HO286.out)) k_ hn_)), Or.elim hk_ (fun hs_ => fun e_ => (((HO291.out).1 k_ e_.symm).2) hs_) (fun hn_ => (Kd.fresh' (Kd.R_lt (by (with_reducible repeat (first | apply Kd.R_alloc | apply Kd.R_drewN | apply Kd.R_drew)); exact HO291.out)) k_ hn_))⟩)); have n7_ := Aside0.mk (hb); clear HO273; clear HO276; clear HO279; clear HO282; clear HO286; clear HO291; clear HB; clear HO288; have HO273 := n0_; have HO276 := n1_; have HO279 := n2_; have HO282 := n3_; have HO286 := n4_; have HO291 := n5_; have HO294 := n6_; have HB := n7_; clear n0_ n1_ n2_ n3_ n4_ n5_ n6_ n7_; (try clear hb); (try clear hkp); (try clear ho0); obtain ⟨Ao31, co31, eo31⟩ := Kd.R_slice HO294.out; subst eo31) | ((with_reducible refine gate_callee (f := 44) rfl ?_); refine goesL_ (some 43) rfl rfl Try.func44 (by kernel_rfl) rfl #[.int .i64 a2] rfl (by (try simp only [List.map_toArray, List.map_cons, List.map_nil]); first | done | rfl | (simp only [List.length_drop, List.length_take]; rfl)) ?_; (with_reducible refine (soukref01_bits.calls k a2 t295 _ A14.out).mono ?_); rintro e w32 ⟨v296, rfl, ho0, hb⟩; refine ⟨_, rfl, ?_⟩; have n0_ := Aside0.mk (Kd.R_elder' (by (with_reducible repeat (first | apply Kd.R_alloc | apply Kd.R_drewN | apply Kd.R_drew)); exact HO273.out) (Kd.R_base ho0) hb); have n1_ := Aside0.mk (Kd.R_elder' (by (with_reducible repeat (first | apply Kd.R_alloc | apply Kd.R_drewN | apply Kd.R_drew)); exact HO276.out) (Kd.R_base ho0) hb); have n2_ := Aside0.mk (Kd.R_elder' (by (with_reducible repeat (first | apply Kd.R_alloc | apply Kd.R_drewN | apply Kd.R_drew)); exact HO279.out) (Kd.R_base ho0) hb); have n3_ := Aside0.mk (Kd.R_elder' (by (with_reducible repeat (first | apply Kd.R_alloc | apply Kd.R_drewN | apply Kd.R_drew)); exact HO282.out) (Kd.R_base ho0) hb); have n4_ := Aside0.mk (Kd.R_elder' (by (with_reducible repeat (first | apply Kd.R_alloc | apply Kd.R_drewN | apply Kd.R_drew)); exact HO286.out) (Kd.R_base ho0) hb); have n5_ := Aside0.mk (Kd.R_elder' (by (with_reducible repeat (first | apply Kd.R_alloc | apply Kd.R_drewN | apply Kd.R_drew)); exact HO291.out) (Kd.R_base ho0) hb); have n6_ := Aside0.mk (Kd.R_elder' (by (with_reducible repeat (first | apply Kd.R_alloc | apply Kd.R_drewN | apply Kd.R_drew)); exact HO294.out) (Kd.R_base ho0) hb); have n7_ := Aside0.mk (Kd.R_lower (Kd.R_new' (Kd.R_new' (Kd.R_new' (Kd.R_new' (Kd.R_new' (Kd.R_new' (Kd.R_new' ho0 (Kd.R_lt (by (with_reducible repeat (first | apply Kd.R_alloc | apply Kd.R_drewN | apply Kd.R_drew)); exact HO273.out))) (Kd.R_lt (by (with_reducible repeat (first | apply Kd.R_alloc | apply Kd.R_drewN | apply Kd.R_drew)); exact HO276.out))) (Kd.R_lt (by (with_reducible repeat (first | apply Kd.R_alloc | apply Kd.R_drewN | apply Kd.R_drew)); exact HO279.out))) (Kd.R_lt (by (with_reducible repeat (first | apply Kd.R_alloc | apply Kd.R_drewN | apply Kd.R_drew)); exact HO282.out))) (Kd.R_lt (by (with_reducible repeat (first | apply Kd.R_alloc | apply Kd.R_drewN | apply Kd.R_drew)); exact HO286.out))) (Kd.R_lt (by (with_reducible repeat (first | apply Kd.R_alloc | apply Kd.R_drewN | apply Kd.R_drew)); exact HO291.out))) (Kd.R_lt (by (with_reducible repeat (first | apply Kd.R_alloc | apply Kd.R_drewN | apply Kd.R_drew)); exact HO294.out))) (below_size (by repeat (first | (with_reducible first | exact HB.out | apply below_alloc | apply pw_below_drewN | apply below_drew1) | exact HB.out)))); have n8_ := Aside0.mk (below_step (by repeat (first | (with_reducible first | exact HB.out | apply below_alloc | apply pw_below_drewN | apply below_drew1) | exact HB.out)) hb); clear HO273; clear HO276; clear HO279; clear HO282; clear HO286; clear HO291; clear HO294; clear HB; have HO273 := n0_; have HO276 := n1_; have HO279 := n2_; have HO282 := n3_; have HO286 := n4_; have HO291 := n5_; have HO294 := n6_; have HO297 := n7_; have HB := n8_; clear n0_ n1_ n2_ n3_ n4_ n5_ n6_ n7_ n8_; (try clear hb); (try clear hb2); (try clear hk); (try clear hi); (try clear ho0); obtain ⟨Ao33, co33, eo33⟩ := Kd.R_slice HO291.out; subst eo33; obtain ⟨Ao34, co34, eo34⟩ := Kd.R_slice HO297.out; subst eo34) | ((with_reducible refine gate_callee (f := 47) rfl ?_); refine goesL_ (some 44) rfl rfl Try.func47 (by kernel_rfl) rfl #[.slice Ao33 t289.length co33, .slice Ao34 t295.length co34] rfl (by (try simp only [List.map_toArray, List.map_cons, List.map_nil]); first | done | rfl | (simp only [List.length_drop, List.length_take]; rfl)) ?_; (with_reducible refine (soukref01_less.calls k _ _ t289 _ _ t295 t298 _ ?side1 ?side2 ?side3 ?side4 A15.out).mono ?_); (case side1 => repeat (first | exact (Kd.R_reads' HO291.out).2.2 | (with_reducible refine Kd.C_alloc ?_ _) | (with_reducible refine Kd.C_drewN ?_ _) | (with_reducible refine Kd.C_drew ?_))); (case side2 => exact (Kd.R_reads' HO291.out).2.1); (case side3 => repeat (first | exact (Kd.R_reads' HO297.out).2.2 | (with_reducible refine Kd.C_alloc ?_ _) | (with_reducible refine Kd.C_drewN ?_ _) | (with_reducible refine Kd.C_drew ?_))); (case side4 => exact (Kd.R_reads' HO297.out).2.1); rintro e w35 ⟨rfl, hb⟩; refine ⟨_, rfl, ?_⟩; have n0_ := Aside0.mk (Kd.R_below (by (with_reducible repeat (first | apply Kd.R_alloc | apply Kd.R_drewN | apply Kd.R_drew)); exact HO273.out) hb); have n1_ := Aside0.mk (Kd.R_below (by (with_reducible repeat (first | apply Kd.R_alloc | apply Kd.R_drewN | apply Kd.R_drew)); exact HO276.out) hb); have n2_ := Aside0.mk (Kd.R_below (by (with_reducible repeat (first | apply Kd.R_alloc | apply Kd.R_drewN | apply Kd.R_drew)); exact HO279.out) hb); have n3_ := Aside0.mk (Kd.R_below (by (with_reducible repeat (first | apply Kd.R_alloc | apply Kd.R_drewN | apply Kd.R_drew)); exact HO282.out) hb); have n4_ := Aside0.mk (Kd.R_below (by (with_reducible repeat (first | apply Kd.R_alloc | apply Kd.R_drewN | apply Kd.R_drew)); exact HO286.out) hb); have n5_ := Aside0.mk (Kd.R_below (by (with_reducible repeat (first | apply Kd.R_alloc | apply Kd.R_drewN | apply Kd.R_drew)); exact HO291.out) hb); have n6_ := Aside0.mk (Kd.R_below (by (with_reducible repeat (first | apply Kd.R_alloc | apply Kd.R_drewN | apply Kd.R_drew)); exact HO294.out) hb); have n7_ := Aside0.mk (Kd.R_below (by (with_reducible repeat (first | apply Kd.R_alloc | apply Kd.R_drewN | apply Kd.R_drew)); exact HO297.out) hb); have n8_ := Aside0.mk (below_step (by repeat (first | (with_reducible first | exact HB.out | apply below_alloc | apply pw_below_drewN | apply below_drew1) | exact HB.out)) hb); clear HO273; clear HO276; clear HO279; clear HO282; clear HO286; clear HO291; clear HO294; clear HO297; clear HB; have HO273 := n0_; have HO276 := n1_; have HO279 := n2_; have HO282 := n3_; have HO286 := n4_; have HO291 := n5_; have HO294 := n6_; have HO297 := n7_; have HB := n8_; clear n0_ n1_ n2_ n3_ n4_ n5_ n6_ n7_ n8_; (try clear hb); (try clear hb2); (try clear hk); (try clear hi)) | ((with_reducible refine gate_callee (f := 44) rfl ?_); refine goesL_ (some 46) rfl rfl Try.func44 (by kernel_rfl) rfl #[.int .i64 a2] rfl (by (try simp only [List.map_toArray, List.map_cons, List.map_nil]); first | done | rfl | (simp only [List.length_drop, List.length_take]; rfl)) ?_; (with_reducible refine (soukref01_bits.calls k a2 t299 _ A16.out).mono ?_); rintro e w36 ⟨v300, rfl, ho0, hb⟩; refine ⟨_, rfl, ?_⟩; have n0_ := Aside0.mk (Kd.R_elder' (by (with_reducible repeat (first | apply Kd.R_alloc | apply Kd.R_drewN | apply Kd.R_drew)); exact HO273.out) (Kd.R_base ho0) hb); have n1_ := Aside0.mk (Kd.R_elder' (by (with_reducible repeat (first | apply Kd.R_alloc | apply Kd.R_drewN | apply Kd.R_drew)); exact HO276.out) (Kd.R_base ho0) hb); have n2_ := Aside0.mk (Kd.R_elder' (by (with_reducible repeat (first | apply Kd.R_alloc | apply Kd.R_drewN | apply Kd.R_drew)); exact HO279.out) (Kd.R_base ho0) hb); have n3_ := Aside0.mk (Kd.R_elder' (by (with_reducible repeat (first | apply Kd.R_alloc | apply Kd.R_drewN | apply Kd.R_drew)); exact HO282.out) (Kd.R_base ho0) hb); have n4_ := Aside0.mk (Kd.R_elder' (by (with_reducible repeat (first | apply Kd.R_alloc | apply Kd.R_drewN | apply Kd.R_drew)); exact HO286.out) (Kd.R_base ho0) hb); have n5_ := Aside0.mk (Kd.R_elder' (by (with_reducible repeat (first | apply Kd.R_alloc | apply Kd.R_drewN | apply Kd.R_drew)); exact HO291.out) (Kd.R_base ho0) hb); have n6_ := Aside0.mk (Kd.R_elder' (by (with_reducible repeat (first | apply Kd.R_alloc | apply Kd.R_drewN | apply Kd.R_drew)); exact HO294.out) (Kd.R_base ho0) hb); have n7_ := Aside0.mk (Kd.R_elder' (by (with_reducible repeat (first | apply Kd.R_alloc | apply Kd.R_drewN | apply Kd.R_drew)); exact HO297.out) (Kd.R_base ho0) hb); have n8_ := Aside0.mk (Kd.R_lower (Kd.R_new' (Kd.R_new' (Kd.R_new' (Kd.R_new' (Kd.R_new' (Kd.R_new' (Kd.R_new' (Kd.R_new' ho0 (Kd.R_lt (by (with_reducible repeat (first | apply Kd.R_alloc | apply Kd.R_drewN | apply Kd.R_drew)); exact HO273.out))) (Kd.R_lt (by (with_reducible repeat (first | apply Kd.R_alloc | apply Kd.R_drewN | apply Kd.R_drew)); exact HO276.out))) (Kd.R_lt (by (with_reducible repeat (first | apply Kd.R_alloc | apply Kd.R_drewN | apply Kd.R_drew)); exact HO279.out))) (Kd.R_lt (by (with_reducible repeat (first | apply Kd.R_alloc | apply Kd.R_drewN | apply Kd.R_drew)); exact HO282.out))) (Kd.R_lt (by (with_reducible repeat (first | apply Kd.R_alloc | apply Kd.R_drewN | apply Kd.R_drew)); exact HO286.out))) (Kd.R_lt (by (with_reducible repeat (first | apply Kd.R_alloc | apply Kd.R_drewN | apply Kd.R_drew)); exact HO291.out))) (Kd.R_lt (by (with_reducible repeat (first | apply Kd.R_alloc | apply Kd.R_drewN | apply Kd.R_drew)); exact HO294.out))) (Kd.R_lt (by (with_reducible repeat (first | apply Kd.R_alloc | apply Kd.R_drewN | apply Kd.R_drew)); exact HO297.out))) (below_size (by repeat (first | (with_reducible first | exact HB.out | apply below_alloc | apply pw_below_drewN | apply below_drew1) | exact HB.out)))); have n9_ := Aside0.mk (below_step (by repeat (first | (with_reducible first | exact HB.out | apply below_alloc | apply pw_below_drewN | apply below_drew1) | exact HB.out)) hb); clear HO273; clear HO276; clear HO279; clear HO282; clear HO286; clear HO291; clear HO294; clear HO297; clear HB; have HO273 := n0_; have HO276 := n1_; have HO279 := n2_; have HO282 := n3_; have HO286 := n4_; have HO291 := n5_; have HO294 := n6_; have HO297 := n7_; have HO301 := n8_; have HB := n9_; clear n0_ n1_ n2_ n3_ n4_ n5_ n6_ n7_ n8_ n9_; (try clear hb); (try clear hb2); (try clear hk); (try clear hi); (try clear ho0); obtain ⟨Ao37, co37, eo37⟩ := Kd.R_slice HO301.out; subst eo37) | ((with_reducible refine gate_callee (f := 47) rfl ?_); refine goesL_ (some 48) rfl rfl Try.func47 (by kernel_rfl) rfl #[.slice Ao37 t299.length co37, .slice Ao33 t289.length co33] rfl (by (try simp only [List.map_toArray, List.map_cons, List.map_nil]); first | done | rfl | (simp only [List.length_drop, List.length_take]; rfl)) ?_; (with_reducible refine (soukref01_less.calls k _ _ t299 _ _ t289 t302 _ ?side1 ?side2 ?side3 ?side4 A17.out).mono ?_); (case side1 => repeat (first | exact (Kd.R_reads' HO301.out).2.2 | (with_reducible refine Kd.C_alloc ?_ _) | (with_reducible refine Kd.C_drewN ?_ _) | (with_reducible refine Kd.C_drew ?_))); (case side2 => exact (Kd.R_reads' HO301.out).2.1); (case side3 => repeat (first | exact (Kd.R_reads' HO291.out).2.2 | (with_reducible refine Kd.C_alloc ?_ _) | (with_reducible refine Kd.C_drewN ?_ _) | (with_reducible refine Kd.C_drew ?_))); (case side4 => exact (Kd.R_reads' HO291.out).2.1); rintro e w38 ⟨rfl, hb⟩; refine ⟨_, rfl, ?_⟩; have n0_ := Aside0.mk (Kd.R_below (by (with_reducible repeat (first | apply Kd.R_alloc | apply Kd.R_drewN | apply Kd.R_drew)); exact HO273.out) hb); have n1_ := Aside0.mk (Kd.R_below (by (with_reducible repeat (first | apply Kd.R_alloc | apply Kd.R_drewN | apply Kd.R_drew)); exact HO276.out) hb); have n2_ := Aside0.mk (Kd.R_below (by (with_reducible repeat (first | apply Kd.R_alloc | apply Kd.R_drewN | apply Kd.R_drew)); exact HO279.out) hb); have n3_ := Aside0.mk (Kd.R_below (by (with_reducible repeat (first | apply Kd.R_alloc | apply Kd.R_drewN | apply Kd.R_drew)); exact HO282.out) hb); have n4_ := Aside0.mk (Kd.R_below (by (with_reducible repeat (first | apply Kd.R_alloc | apply Kd.R_drewN | apply Kd.R_drew)); exact HO286.out) hb); have n5_ := Aside0.mk (Kd.R_below (by (with_reducible repeat (first | apply Kd.R_alloc | apply Kd.R_drewN | apply Kd.R_drew)); exact HO291.out) hb); have n6_ := Aside0.mk (Kd.R_below (by (with_reducible repeat (first | apply Kd.R_alloc | apply Kd.R_drewN | apply Kd.R_drew)); exact HO294.out) hb); have n7_ := Aside0.mk (Kd.R_below (by (with_reducible repeat (first | apply Kd.R_alloc | apply Kd.R_drewN | apply Kd.R_drew)); exact HO297.out) hb); have n8_ := Aside0.mk (Kd.R_below (by (with_reducible repeat (first | apply Kd.R_alloc | apply Kd.R_drewN | apply Kd.R_drew)); exact HO301.out) hb); have n9_ := Aside0.mk (below_step (by repeat (first | (with_reducible first | exact HB.out | apply below_alloc | apply pw_below_drewN | apply below_drew1) | exact HB.out)) hb); clear HO273; clear HO276; clear HO279; clear HO282; clear HO286; clear HO291; clear HO294; clear HO297; clear HO301; clear HB; have HO273 := n0_; have HO276 := n1_; have HO279 := n2_; have HO282 := n3_; have HO286 := n4_; have HO291 := n5_; have HO294 := n6_; have HO297 := n7_; have HO301 := n8_; have HB := n9_; clear n0_ n1_ n2_ n3_ n4_ n5_ n6_ n7_ n8_ n9_; (try clear hb); (try clear hb2); (try clear hk); (try clear hi); obtain ⟨Ao39, co39, eo39⟩ := Kd.R_slice HO286.out; subst eo39) | ((with_reducible refine gate_callee (f := 49) rfl ?_); refine goesL_ (some 97) rfl rfl Try.func49 (by kernel_rfl) rfl #[.slice Ao39 t283.length co39, .bool true] rfl (by (try simp only [List.map_toArray, List.map_cons, List.map_nil]); first | done | rfl | (simp only [List.length_drop, List.length_take]; rfl)) ?_; (with_reducible refine (soukref01_value.calls k (fun k_ => some k_ = (.slice Ao39 t283.length co39 : Value).ownBlock) (.slice Ao39 t283.length co39) t283 true t303 t304 w _ ?side1 ?side2 A18.out).mono ?_); (case side1 => repeat (first | (with_reducible first | exact HB.out | apply below_alloc | apply pw_below_drewN | apply below_drew1) | exact HB.out)); (case side2 => exact Kd.R_tight rfl HO286.out); rintro e w40 ⟨rfl, hb, hkp⟩; refine ⟨_, rfl, ?_⟩; have n0_ := Aside0.mk (Kd.R_mono (ok' := fun k_ => some k_ ≠ (.slice Ao22 t274.length co22 : Value).ownBlock ∧ some k_ ≠ (.slice Ao25 t277.length co25 : Value).ownBlock ∧ some k_ ≠ (.slice Ao26 t280.length co26 : Value).ownBlock ∧ some k_ ≠ (.slice Ao33 t289.length co33 : Value).ownBlock ∧ some k_ ≠ (.slice Ao31 t292.length co31 : Value).ownBlock ∧ some k_ ≠ (.slice Ao34 t295.length co34 : Value).ownBlock ∧ some k_ ≠ (.slice Ao37 t299.length co37 : Value).ownBlock) (Kd.R_keptB (HO273.out) hkp (fun k_ hk_ hs_ => (hk_.1.1.2.2.2.1) hs_)) (fun k_ hk_ => ⟨hk_.1.1.1.1, hk_.1.1.1.2.1, hk_.1.1.1.2.2.1, hk_.1.1.1.2.2.2.2.1, hk_.1.1.1.2.2.2.2.2, hk_.1.1.2, hk_.1.2⟩)); have n1_ := Aside0.mk (Kd.R_mono (ok' := fun k_ => some k_ ≠ (.slice Ao21 t271.length co21 : Value).ownBlock ∧ some k_ ≠ (.slice Ao25 t277.length co25 : Value).ownBlock ∧ some k_ ≠ (.slice Ao26 t280.length co26 : Value).ownBlock ∧ some k_ ≠ (.slice Ao33 t289.length co33 : Value).ownBlock ∧ some k_ ≠ (.slice Ao31 t292.length co31 : Value).ownBlock ∧ some k_ ≠ (.slice Ao34 t295.length co34 : Value).ownBlock ∧ some k_ ≠ (.slice Ao37 t299.length co37 : Value).ownBlock) (Kd.R_keptB (HO276.out) hkp (fun k_ hk_ hs_ => (hk_.1.1.2.2.2.1) hs_)) (fun k_ hk_ => ⟨hk_.1.1.1.1, hk_.1.1.1.2.1, hk_.1.1.1.2.2.1, hk_.1.1.1.2.2.2.2.1, hk_.1.1.1.2.2.2.2.2, hk_.1.1.2, hk_.1.2⟩)); have n2_ := Aside0.mk (Kd.R_mono (ok' := fun k_ => some k_ ≠ (.slice Ao21 t271.length co21 : Value).ownBlock ∧ some k_ ≠ (.slice Ao22 t274.length co22 : Value).ownBlock ∧ some k_ ≠ (.slice Ao26 t280.length co26 : Value).ownBlock ∧ some k_ ≠ (.slice Ao33 t289.length co33 : Value).ownBlock ∧ some k_ ≠ (.slice Ao31 t292.length co31 : Value).ownBlock ∧ some k_ ≠ (.slice Ao34 t295.length co34 : Value).ownBlock ∧ some k_ ≠ (.slice Ao37 t299.length co37 : Value).ownBlock) (Kd.R_keptB (HO279.out) hkp (fun k_ hk_ hs_ => (hk_.1.1.2.2.2.1) hs_)) (fun k_ hk_ => ⟨hk_.1.1.1.1, hk_.1.1.1.2.1, hk_.1.1.1.2.2.1, hk_.1.1.1.2.2.2.2.1, hk_.1.1.1.2.2.2.2.2, hk_.1.1.2, hk_.1.2⟩)); have n3_ := Aside0.mk (Kd.R_mono (ok' := fun k_ => some k_ ≠ (.slice Ao21 t271.length co21 : Value).ownBlock ∧ some k_ ≠ (.slice Ao22 t274.length co22 : Value).ownBlock ∧ some k_ ≠ (.slice Ao25 t277.length co25 : Value).ownBlock ∧ some k_ ≠ (.slice Ao33 t289.length co33 : Value).ownBlock ∧ some k_ ≠ (.slice Ao31 t292.length co31 : Value).ownBlock ∧ some k_ ≠ (.slice Ao34 t295.length co34 : Value).ownBlock ∧ some k_ ≠ (.slice Ao37 t299.length co37 : Value).ownBlock) (Kd.R_keptB (HO282.out) hkp (fun k_ hk_ hs_ => (hk_.1.1.2.2.2.1) hs_)) (fun k_ hk_ => ⟨hk_.1.1.1.1, hk_.1.1.1.2.1, hk_.1.1.1.2.2.1, hk_.1.1.1.2.2.2.2.1, hk_.1.1.1.2.2.2.2.2, hk_.1.1.2, hk_.1.2⟩)); have n4_ := Aside0.mk (Kd.R_mono (ok' := fun k_ => some k_ ≠ (.slice Ao21 t271.length co21 : Value).ownBlock ∧ some k_ ≠ (.slice Ao22 t274.length co22 : Value).ownBlock ∧ some k_ ≠ (.slice Ao25 t277.length co25 : Value).ownBlock ∧ some k_ ≠ (.slice Ao26 t280.length co26 : Value).ownBlock ∧ some k_ ≠ (.slice Ao31 t292.length co31 : Value).ownBlock ∧ some k_ ≠ (.slice Ao34 t295.length co34 : Value).ownBlock ∧ some k_ ≠ (.slice Ao37 t299.length co37 : Value).ownBlock) (Kd.R_keptB (HO291.out) hkp (fun k_ hk_ hs_ => (hk_.1.1.2.2.2.2.1) hs_)) (fun k_ hk_ => ⟨hk_.1.1.1.1, hk_.1.1.1.2.1, hk_.1.1.1.2.2.1, hk_.1.1.1.2.2.2.1, hk_.1.1.1.2.2.2.2.2, hk_.1.1.2, hk_.1.2⟩)); have n5_ := Aside0.mk (Kd.R_mono (ok' := fun k_ => some k_ ≠ (.slice Ao21 t271.length co21 : Value).ownBlock ∧ some k_ ≠ (.slice Ao22 t274.length co22 : Value).ownBlock ∧ some k_ ≠ (.slice Ao25 t277.length co25 : Value).ownBlock ∧ some k_ ≠ (.slice Ao26 t280.length co26 : Value).ownBlock ∧ some k_ ≠ (.slice Ao33 t289.length co33 : Value).ownBlock ∧ some k_ ≠ (.slice Ao34 t295.length co34 : Value).ownBlock ∧ some k_ ≠ (.slice Ao37 t299.length co37 : Value).ownBlock) (Kd.R_keptB (HO294.out) hkp (fun k_ hk_ hs_ => (hk_.1.1.2.2.2.2.1) hs_)) (fun k_ hk_ => ⟨hk_.1.1.1.1, hk_.1.1.1.2.1, hk_.1.1.1.2.2.1, hk_.1.1.1.2.2.2.1, hk_.1.1.1.2.2.2.2.2, hk_.1.1.2, hk_.1.2⟩)); have n6_ := Aside0.mk (Kd.R_mono (ok' := fun k_ => some k_ ≠ (.slice Ao21 t271.length co21 : Value).ownBlock ∧ some k_ ≠ (.slice Ao22 t274.length co22 : Value).ownBlock ∧ some k_ ≠ (.slice Ao25 t277.length co25 : Value).ownBlock ∧ some k_ ≠ (.slice Ao26 t280.length co26 : Value).ownBlock ∧ some k_ ≠ (.slice Ao33 t289.length co33 : Value).ownBlock ∧ some k_ ≠ (.slice Ao31 t292.length co31 : Value).ownBlock ∧ some k_ ≠ (.slice Ao37 t299.length co37 : Value).ownBlock) (Kd.R_keptB (HO297.out) hkp (fun k_ hk_ hs_ => (hk_.1.1.1.2) hs_)) (fun k_ hk_ => ⟨hk_.1.1.1.1.1.1.1.1.2, hk_.1.1.1.1.1.1.1.2, hk_.1.1.1.1.1.1.2, hk_.1.1.1.1.1.2, hk_.1.1.1.2, hk_.1.1.2, hk_.1.2⟩)); have n7_ := Aside0.mk (Kd.R_mono (ok' := fun k_ => some k_ ≠ (.slice Ao21 t271.length co21 : Value).ownBlock ∧ some k_ ≠ (.slice Ao22 t274.length co22 : Value).ownBlock ∧ some k_ ≠ (.slice Ao25 t277.length co25 : Value).ownBlock ∧ some k_ ≠ (.slice Ao26 t280.length co26 : Value).ownBlock ∧ some k_ ≠ (.slice Ao33 t289.length co33 : Value).ownBlock ∧ some k_ ≠ (.slice Ao31 t292.length co31 : Value).ownBlock ∧ some k_ ≠ (.slice Ao34 t295.length co34 : Value).ownBlock) (Kd.R_keptB (HO301.out) hkp (fun k_ hk_ hs_ => (hk_.1.1.1.2) hs_)) (fun k_ hk_ => ⟨hk_.1.1.1.1.1.1.1.1.2, hk_.1.1.1.1.1.1.1.2, hk_.1.1.1.1.1.1.2, hk_.1.1.1.1.1.2, hk_.1.1.1.2, hk_.1.1.2, hk_.1.2⟩)); have n8_ := Aside0.mk (hb); clear HO273; clear HO276; clear HO279; clear HO282; clear HO291; clear HO294; clear HO297; clear HO301; clear HB; clear HO286; have HO273 := n0_; have HO276 := n1_; have HO279 := n2_; have HO282 := n3_; have HO291 := n4_; have HO294 := n5_; have HO297 := n6_; have HO301 := n7_; have HB := n8_; clear n0_ n1_ n2_ n3_ n4_ n5_ n6_ n7_ n8_; (try clear hb); (try clear hkp)))
   go_ret2
   exact ⟨by first | rfl | (simp [errW_none, errW_some] <;> rfl) | (simp [*, errW_none, errW_some] <;> rfl), by repeat (first | (with_reducible first | exact HB.out | apply below_alloc | apply pw_below_drewN | apply below_drew1) | exact HB.out)⟩
  ·rw [if_neg c13] at H
   have c13b0 : ((t292.length : Int) == 0) = false := beq_eq_false_iff_ne.mpr c13
   have c13b1 : ((t292.length : Int) != 0) = true := bne_iff_ne.mpr c13
   have c13b2 : ¬ (t292 = []) := fun h_ => c13 (by rw [h_]; rfl)
   replace H := Option.bind_eq_some_iff.mp H
   obtain ⟨t305, A410, H⟩ := H
   replace H : ((soukref01_less.f k t289 t305).bind fun t308 => ((soukref01_bits.f k a2).bind fun t309 => ((soukref01_less.f k t309 t289).bind fun t312 => (if a3 = 0 then (soukref01_MulDiv.j0 k a3 true t283 false t308 t312 true) else (if a3 = 1 then (if a3 = 2 then (soukref01_MulDiv.j0 k a3 true t283 false t308 t312 t312) else (soukref01_MulDiv.j0 k a3 true t283 false t308 t312 false)) else (if a3 = 2 then (soukref01_MulDiv.j0 k a3 true t283 false t308 t312 t312) else (soukref01_MulDiv.j0 k a3 true t283 false t308 t312 false))))))) = some (r1, r2) := H
   have A41 := Aside0.mk A410
   clear A410
   replace H := Option.bind_eq_some_iff.mp H
   obtain ⟨t308, A420, H⟩ := H
   replace H : ((soukref01_bits.f k a2).bind fun t309 => ((soukref01_less.f k t309 t289).bind fun t312 => (if a3 = 0 then (soukref01_MulDiv.j0 k a3 true t283 false t308 t312 true) else (if a3 = 1 then (if a3 = 2 then (soukref01_MulDiv.j0 k a3 true t283 false t308 t312 t312) else (soukref01_MulDiv.j0 k a3 true t283 false t308 t312 false)) else (if a3 = 2 then (soukref01_MulDiv.j0 k a3 true t283 false t308 t312 t312) else (soukref01_MulDiv.j0 k a3 true t283 false t308 t312 false)))))) = some (r1, r2) := H
   have A42 := Aside0.mk A420
   clear A420
   replace H := Option.bind_eq_some_iff.mp H
   obtain ⟨t309, A430, H⟩ := H
   replace H : ((soukref01_less.f k t309 t289).bind fun t312 => (if a3 = 0 then (soukref01_MulDiv.j0 k a3 true t283 false t308 t312 true) else (if a3 = 1 then (if a3 = 2 then (soukref01_MulDiv.j0 k a3 true t283 false t308 t312 t312) else (soukref01_MulDiv.j0 k a3 true t283 false t308 t312 false)) else (if a3 = 2 then (soukref01_MulDiv.j0 k a3 true t283 false t308 t312 t312) else (soukref01_MulDiv.j0 k a3 true t283 false t308 t312 false))))) = some (r1, r2) := H
   have A43 := Aside0.mk A430
   clear A430
   replace H := Option.bind_eq_some_iff.mp H
   obtain ⟨t312, A440, H⟩ := H
   replace H : (if a3 = 0 then (soukref01_MulDiv.j0 k a3 true t283 false t308 t312 true) else (if a3 = 1 then (if a3 = 2 then (soukref01_MulDiv.j0 k a3 true t283 false t308 t312 t312) else (soukref01_MulDiv.j0 k a3 true t283 false t308 t312 false)) else (if a3 = 2 then (soukref01_MulDiv.j0 k a3 true t283 false t308 t312 t312) else (soukref01_MulDiv.j0 k a3 true t283 false t308 t312 false)))) = some (r1, r2) := H
   have A44 := Aside0.mk A440
   clear A440
   have HC45 := Aside0.mk H
   clear H
   go_enter Try.func19, Try.ntmps19
   go_upto_region 7 with (first | ((with_reducible refine gate_callee (f := 44) rfl ?_); refine goesL_ (some 25) rfl rfl Try.func44 (by kernel_rfl) rfl #[.int .i64 a0] rfl (by (try simp only [List.map_toArray, List.map_cons, List.map_nil]); first | done | rfl | (simp only [List.length_drop, List.length_take]; rfl)) ?_; (with_reducible refine (soukref01_bits.calls k a0 t271 _ A6.out).mono ?_); rintro e w46 ⟨v272, rfl, ho0, hb⟩; refine ⟨_, rfl, ?_⟩; have n0_ := Aside0.mk (Kd.R_lower ho0 (below_size (by repeat (first | (with_reducible first | exact HB.out | apply below_alloc | apply pw_below_drewN | apply below_drew1) | exact HB.out)))); have n1_ := Aside0.mk (below_step (by repeat (first | (with_reducible first | exact HB.out | apply below_alloc | apply pw_below_drewN | apply below_drew1) | exact HB.out)) hb); clear HB; have HO273 := n0_; have HB := n1_; clear n0_ n1_; (try clear hb); (try clear hb2); (try clear hk); (try clear hi); (try clear ho0)) | ((with_reducible refine gate_callee (f := 44) rfl ?_); refine goesL_ (some 27) rfl rfl Try.func44 (by kernel_rfl) rfl #[.int .i64 a1] rfl (by (try simp only [List.map_toArray, List.map_cons, List.map_nil]); first | done | rfl | (simp only [List.length_drop, List.length_take]; rfl)) ?_; (with_reducible refine (soukref01_bits.calls k a1 t274 _ A7.out).mono ?_); rintro e w47 ⟨v275, rfl, ho0, hb⟩; refine ⟨_, rfl, ?_⟩; have n0_ := Aside0.mk (Kd.R_elder' (by (with_reducible repeat (first | apply Kd.R_alloc | apply Kd.R_drewN | apply Kd.R_drew)); exact HO273.out) (Kd.R_base ho0) hb); have n1_ := Aside0.mk (Kd.R_lower (Kd.R_new' ho0 (Kd.R_lt (by (with_reducible repeat (first | apply Kd.R_alloc | apply Kd.R_drewN | apply Kd.R_drew)); exact HO273.out))) (below_size (by repeat (first | (with_reducible first | exact HB.out | apply below_alloc | apply pw_below_drewN | apply below_drew1) | exact HB.out)))); have n2_ := Aside0.mk (below_step (by repeat (first | (with_reducible first | exact HB.out | apply below_alloc | apply pw_below_drewN | apply below_drew1) | exact HB.out)) hb); clear HO273; clear HB; have HO273 := n0_; have HO276 := n1_; have HB := n2_; clear n0_ n1_ n2_; (try clear hb); (try clear hb2); (try clear hk); (try clear hi); (try clear ho0); obtain ⟨Ao48, co48, eo48⟩ := Kd.R_slice HO273.out; subst eo48; obtain ⟨Ao49, co49, eo49⟩ := Kd.R_slice HO276.out; subst eo49) | ((with_reducible refine gate_callee (f := 43) rfl ?_); refine goesL_ (some 28) rfl rfl Try.func43 (by kernel_rfl) rfl #[.slice Ao48 t271.length co48, .slice Ao49 t274.length co49] rfl (by (try simp only [List.map_toArray, List.map_cons, List.map_nil]); first | done | rfl | (simp only [List.length_drop, List.length_take]; rfl)) ?_; (with_reducible refine (soukref01_Times.calls k _ _ t271 _ _ t274 t277 _ ?side1 ?side2 ?side3 ?side4 A8.out).mono ?_); (case side1 => repeat (first | exact (Kd.R_reads' HO273.out).2.2 | (with_reducible refine Kd.C_alloc ?_ _) | (with_reducible refine Kd.C_drewN ?_ _) | (with_reducible refine Kd.C_drew ?_))); (case side2 => exact (Kd.R_reads' HO273.out).2.1); (case side3 => repeat (first | exact (Kd.R_reads' HO276.out).2.2 | (with_reducible refine Kd.C_alloc ?_ _) | (with_reducible refine Kd.C_drewN ?_ _) | (with_reducible refine Kd.C_drew ?_))); (case side4 => exact (Kd.R_reads' HO276.out).2.1); rintro e w50 ⟨v278, rfl, ho0, hb⟩; refine ⟨_, rfl, ?_⟩; have n0_ := Aside0.mk (Kd.R_elder' (by (with_reducible repeat (first | apply Kd.R_alloc | apply Kd.R_drewN | apply Kd.R_drew)); exact HO273.out) (Kd.R_base ho0) hb); have n1_ := Aside0.mk (Kd.R_elder' (by (with_reducible repeat (first | apply Kd.R_alloc | apply Kd.R_drewN | apply Kd.R_drew)); exact HO276.out) (Kd.R_base ho0) hb); have n2_ := Aside0.mk (Kd.R_lower (Kd.R_new' (Kd.R_new' ho0 (Kd.R_lt (by (with_reducible repeat (first | apply Kd.R_alloc | apply Kd.R_drewN | apply Kd.R_drew)); exact HO273.out))) (Kd.R_lt (by (with_reducible repeat (first | apply Kd.R_alloc | apply Kd.R_drewN | apply Kd.R_drew)); exact HO276.out))) (below_size (by repeat (first | (with_reducible first | exact HB.out | apply below_alloc | apply pw_below_drewN | apply below_drew1) | exact HB.out)))); have n3_ := Aside0.mk (below_step (by repeat (first | (with_reducible first | exact HB.out | apply below_alloc | apply pw_below_drewN | apply below_drew1) | exact HB.out)) hb); clear HO273; clear HO276; clear HB; have HO273 := n0_; have HO276 := n1_; have HO279 := n2_; have HB := n3_; clear n0_ n1_ n2_ n3_; (try clear hb); (try clear hb2); (try clear hk); (try clear hi); (try clear ho0)) | ((with_reducible refine gate_callee (f := 44) rfl ?_); refine goesL_ (some 30) rfl rfl Try.func44 (by kernel_rfl) rfl #[.int .i64 a2] rfl (by (try simp only [List.map_toArray, List.map_cons, List.map_nil]); first | done | rfl | (simp only [List.length_drop, List.length_take]; rfl)) ?_; (with_reducible refine (soukref01_bits.calls k a2 t280 _ A9.out).mono ?_); rintro e w51 ⟨v281, rfl, ho0, hb⟩; refine ⟨_, rfl, ?_⟩; have n0_ := Aside0.mk (Kd.R_elder' (by (with_reducible repeat (first | apply Kd.R_alloc | apply Kd.R_drewN | apply Kd.R_drew)); exact HO273.out) (Kd.R_base ho0) hb); have n1_ := Aside0.mk (Kd.R_elder' (by (with_reducible repeat (first | apply Kd.R_alloc | apply Kd.R_drewN | apply Kd.R_drew)); exact HO276.out) (Kd.R_base ho0) hb); have n2_ := Aside0.mk (Kd.R_elder' (by (with_reducible repeat (first | apply Kd.R_alloc | apply Kd.R_drewN | apply Kd.R_drew)); exact HO279.out) (Kd.R_base ho0) hb); have n3_ := Aside0.mk (Kd.R_lower (Kd.R_new' (Kd.R_new' (Kd.R_new' ho0 (Kd.R_lt (by (with_reducible repeat (first | apply Kd.R_alloc | apply Kd.R_drewN | apply Kd.R_drew)); exact HO273.out))) (Kd.R_lt (by (with_reducible repeat (first | apply Kd.R_alloc | apply Kd.R_drewN | apply Kd.R_drew)); exact HO276.out))) (Kd.R_lt (by (with_reducible repeat (first | apply Kd.R_alloc | apply Kd.R_drewN | apply Kd.R_drew)); exact HO279.out))) (below_size (by repeat (first | (with_reducible first | exact HB.out | apply below_alloc | apply pw_below_drewN | apply below_drew1) | exact HB.out)))); have n4_ := Aside0.mk (below_step (by repeat (first | (with_reducible first | exact HB.out | apply below_alloc | apply pw_below_drewN | apply below_drew1) | exact HB.out)) hb); clear HO273; clear HO276; clear HO279; clear HB; have HO273 := n0_; have HO276 := n1_; have HO279 := n2_; have HO282 := n3_; have HB := n4_; clear n0_ n1_ n2_ n3_ n4_; (try clear hb); (try clear hb2); (try clear hk); (try clear hi); (try clear ho0); obtain ⟨Ao52, co52, eo52⟩ := Kd.R_slice HO279.out; subst eo52; obtain ⟨Ao53, co53, eo53⟩ := Kd.R_slice HO282.out; subst eo53) | ((with_reducible refine gate_callee (f := 42) rfl ?_); refine goesL_ (some 31) rfl rfl Try.func42 (by kernel_rfl) rfl #[.slice Ao52 t277.length co52, .slice Ao53 t280.length co53] rfl (by (try simp only [List.map_toArray, List.map_cons, List.map_nil]); first | done | rfl | (simp only [List.length_drop, List.length_take]; rfl)) ?_; (with_reducible refine (soukref01_Div.calls k _ _ t277 _ _ t280 t283 t284 _ ?side1 ?side2 ?side3 ?side4 A10.out).mono ?_); (case side1 => repeat (first | exact (Kd.R_reads' HO279.out).2.2 | (with_reducible refine Kd.C_alloc ?_ _) | (with_reducible refine Kd.C_drewN ?_ _) | (with_reducible refine Kd.C_drew ?_))); (case side2 => exact (Kd.R_reads' HO279.out).2.1); (case side3 => repeat (first | exact (Kd.R_reads' HO282.out).2.2 | (with_reducible refine Kd.C_alloc ?_ _) | (with_reducible refine Kd.C_drewN ?_ _) | (with_reducible refine Kd.C_drew ?_))); (case side4 => exact (Kd.R_reads' HO282.out).2.1); rintro e w54 ⟨v285, v287, rfl, ho0, ho1, hb⟩; refine ⟨_, rfl, ?_⟩; have n0_ := Aside0.mk (Kd.R_mono (Kd.R_told (Kd.R_told (Kd.R_old (by (with_reducible repeat (first | apply Kd.R_alloc | apply Kd.R_drewN | apply Kd.R_drew)); exact HO273.out) hb) (Kd.R_base ho0)) (Kd.R_base ho1)) (fun _ h_ => h_.1)); have n1_ := Aside0.mk (Kd.R_mono (Kd.R_told (Kd.R_told (Kd.R_old (by (with_reducible repeat (first | apply Kd.R_alloc | apply Kd.R_drewN | apply Kd.R_drew)); exact HO276.out) hb) (Kd.R_base ho0)) (Kd.R_base ho1)) (fun _ h_ => h_.1)); have n2_ := Aside0.mk (Kd.R_mono (Kd.R_told (Kd.R_told (Kd.R_old (by (with_reducible repeat (first | apply Kd.R_alloc | apply Kd.R_drewN | apply Kd.R_drew)); exact HO279.out) hb) (Kd.R_base ho0)) (Kd.R_base ho1)) (fun _ h_ => h_.1)); have n3_ := Aside0.mk (Kd.R_mono (Kd.R_told (Kd.R_told (Kd.R_old (by (with_reducible repeat (first | apply Kd.R_alloc | apply Kd.R_drewN | apply Kd.R_drew)); exact HO282.out) hb) (Kd.R_base ho0)) (Kd.R_base ho1)) (fun _ h_ => h_.1)); have n4_ := Aside0.mk (Kd.R_lower (Kd.R_new' (Kd.R_new' (Kd.R_new' (Kd.R_new' ho0 (Kd.R_lt (by (with_reducible repeat (first | apply Kd.R_alloc | apply Kd.R_drewN | apply Kd.R_drew)); exact HO273.out))) (Kd.R_lt (by (with_reducible repeat (first | apply Kd.R_alloc | apply Kd.R_drewN | apply Kd.R_drew)); exact HO276.out))) (Kd.R_lt (by (with_reducible repeat (first | apply Kd.R_alloc | apply Kd.R_drewN | apply Kd.R_drew)); exact HO279.out))) (Kd.R_lt (by (with_reducible repeat (first | apply Kd.R_alloc | apply Kd.R_drewN | apply Kd.R_drew)); exact HO282.out))) (below_size (by repeat (first | (with_reducible first | exact HB.out | apply below_alloc | apply pw_below_drewN | apply below_drew1) | exact HB.out)))); have n5_ := Aside0.mk (Kd.R_lower (Kd.R_new' (Kd.R_new' (Kd.R_new' (Kd.R_new' ho1 (Kd.R_lt (by (with_reducible repeat (first | apply Kd.R_alloc | apply Kd.R_drewN | apply Kd.R_drew)); exact HO273.out))) (Kd.R_lt (by (with_reducible repeat (first | apply Kd.R_alloc | apply Kd.R_drewN | apply Kd.R_drew)); exact HO276.out))) (Kd.R_lt (by (with_reducible repeat (first | apply Kd.R_alloc | apply Kd.R_drewN | apply Kd.R_drew)); exact HO279.out))) (Kd.R_lt (by (with_reducible repeat (first | apply Kd.R_alloc | apply Kd.R_drewN | apply Kd.R_drew)); exact HO282.out))) (below_size (by repeat (first | (with_reducible first | exact HB.out | apply below_alloc | apply pw_below_drewN | apply below_drew1) | exact HB.out)))); have n6_ := Aside0.mk (below_step (by repeat (first | (with_reducible first | exact HB.out | apply below_alloc | apply pw_below_drewN | apply below_drew1) | exact HB.out)) hb); clear HO273; clear HO276; clear HO279; clear HO282; clear HB; have HO273 := n0_; have HO276 := n1_; have HO279 := n2_; have HO282 := n3_; have HO286 := n4_; have HO288 := n5_; have HB := n6_; clear n0_ n1_ n2_ n3_ n4_ n5_ n6_; (try clear hb); (try clear hb2); (try clear hk); (try clear hi); (try clear ho0); (try clear ho1); obtain ⟨Ao55, co55, eo55⟩ := Kd.R_slice HO288.out; subst eo55) | ((with_reducible refine gate_callee (f := 45) rfl ?_); refine goesL_ (some 36) rfl rfl Try.func45 (by kernel_rfl) rfl #[.slice Ao55 t284.length co55, .slice Ao55 t284.length co55] rfl (by (try simp only [List.map_toArray, List.map_cons, List.map_nil]); first | done | rfl | (simp only [List.length_drop, List.length_take]; rfl)) ?_; (with_reducible refine (soukref01_Plus.calls k _ _ t284 _ _ t284 t289 _ ?side1 ?side2 ?side3 ?side4 A11.out).mono ?_); (case side1 => repeat (first | exact (Kd.R_reads' HO288.out).2.2 | (with_reducible refine Kd.C_alloc ?_ _) | (with_reducible refine Kd.C_drewN ?_ _) | (with_reducible refine Kd.C_drew ?_))); (case side2 => exact (Kd.R_reads' HO288.out).2.1); (case side3 => repeat (first | exact (Kd.R_reads' HO288.out).2.2 | (with_reducible refine Kd.C_alloc ?_ _) | (with_reducible refine Kd.C_drewN ?_ _) | (with_reducible refine Kd.C_drew ?_))); (case side4 => exact (Kd.R_reads' HO288.out).2.1); rintro e w56 ⟨v290, rfl, ho0, hb⟩; refine ⟨_, rfl, ?_⟩; have n0_ := Aside0.mk (Kd.R_elder' (by (with_reducible repeat (first | apply Kd.R_alloc | apply Kd.R_drewN | apply Kd.R_drew)); exact HO273.out) (Kd.R_base ho0) hb); have n1_ := Aside0.mk (Kd.R_elder' (by (with_reducible repeat (first | apply Kd.R_alloc | apply Kd.R_drewN | apply Kd.R_drew)); exact HO276.out) (Kd.R_base ho0) hb); have n2_ := Aside0.mk (Kd.R_elder' (by (with_reducible repeat (first | apply Kd.R_alloc | apply Kd.R_drewN | apply Kd.R_drew)); exact HO279.out) (Kd.R_base ho0) hb); have n3_ := Aside0.mk (Kd.R_elder' (by (with_reducible repeat (first | apply Kd.R_alloc | apply Kd.R_drewN | apply Kd.R_drew)); exact HO282.out) (Kd.R_base ho0) hb); have n4_ := Aside0.mk (Kd.R_elder' (by (with_reducible repeat (first | apply Kd.R_alloc | apply Kd.R_drewN | apply Kd.R_drew)); exact HO286.out) (Kd.R_base ho0) hb); have n5_ := Aside0.mk (Kd.R_elder' (by (with_reducible repeat (first | apply Kd.R_alloc | apply Kd.R_drewN | apply Kd.R_drew)); exact HO288.out) (Kd.R_base ho0) hb); have n6_ := Aside0.mk (Kd.R_lower (Kd.R_new' (Kd.R_new' (Kd.R_new' (Kd.R_new' (Kd.R_new' (Kd.R_new' ho0 (Kd.R_lt (by (with_reducible repeat (first | apply Kd.R_alloc | apply Kd.R_drewN | apply Kd.R_drew)); exact HO273.out))) (Kd.R_lt (by (with_reducible repeat (first | apply Kd.R_alloc | apply Kd.R_drewN | apply Kd.R_drew)); exact HO276.out))) (Kd.R_lt (by (with_reducible repeat (first | apply Kd.R_alloc | apply Kd.R_drewN | apply Kd.R_drew)); exact HO279.out))) (Kd.R_lt (by (with_reducible repeat (first | apply Kd.R_alloc | apply Kd.R_drewN | apply Kd.R_drew)); exact HO282.out))) (Kd.R_lt (by (with_reducible repeat (first | apply Kd.R_alloc | apply Kd.R_drewN | apply Kd.R_drew)); exact HO286.out))) (Kd.R_lt (by (with_reducible repeat (first | apply Kd.R_alloc | apply Kd.R_drewN | apply Kd.R_drew)); exact HO288.out))) (below_size (by repeat (first | (with_reducible first | exact HB.out | apply below_alloc | apply pw_below_drewN | apply below_drew1) | exact HB.out)))); have n7_ := Aside0.mk (below_step (by repeat (first | (with_reducible first | exact HB.out | apply below_alloc | apply pw_below_drewN | apply below_drew1) | exact HB.out)) hb); clear HO273; clear HO276; clear HO279; clear HO282; clear HO286; clear HO288; clear HB; have HO273 := n0_; have HO276 := n1_; have HO279 := n2_; have HO282 := n3_; have HO286 := n4_; have HO288 := n5_; have HO291 := n6_; have HB := n7_; clear n0_ n1_ n2_ n3_ n4_ n5_ n6_ n7_; (try clear hb); (try clear hb2); (try clear hk); (try clear hi); (try clear ho0)) | ((with_reducible refine gate_callee (f := 46) rfl ?_); refine goesL_ (some 38) rfl rfl Try.func46 (by kernel_rfl) rfl #[.slice Ao55 t284.length co55] rfl (by (try simp only [List.map_toArray, List.map_cons, List.map_nil]); first | done | rfl | (simp only [List.length_drop, List.length_take]; rfl)) ?_; (with_reducible refine (soukref01_trim.calls k (fun k_ => some k_ = (.slice Ao55 t284.length co55 : Value).ownBlock) (.slice Ao55 t284.length co55) t284 t292 w _ ?side1 ?side2 A12.out).mono ?_); (case side1 => repeat (first | (with_reducible first | exact HB.out | apply below_alloc | apply pw_below_drewN | apply below_drew1) | exact HB.out)); (case side2 => exact Kd.R_tight rfl HO288.out); rintro e w57 ⟨v293, rfl, ho0, hb, hkp⟩; refine ⟨_, rfl, ?_⟩; have n0_ := Aside0.mk (Kd.R_mono (ok' := fun k_ => some k_ ≠ (.slice Ao49 t274.length co49 : Value).ownBlock ∧ some k_ ≠ (.slice Ao52 t277.length co52 : Value).ownBlock ∧ some k_ ≠ (.slice Ao53 t280.length co53 : Value).ownBlock ∧ some k_ ≠ (v285 : Value).ownBlock ∧ some k_ ≠ (v290 : Value).ownBlock ∧ some k_ ≠ (v293 : Value).ownBlock) (Kd.R_keptB (HO273.out) hkp (fun k_ hk_ hs_ => (hk_.1.2) hs_)) (fun k_ hk_ => ⟨hk_.1.1.1.1.1.1.2, hk_.1.1.1.1.1.2, hk_.1.1.1.1.2, hk_.1.1.1.2, hk_.1.2, fun e_ => Or.elim (ho0.1 k_ e_.symm) (fun hs_ => hk_.2.1 hs_) (fun hn_ => Nat.not_le.2 hk_.2.2 hn_)⟩)); have n1_ := Aside0.mk (Kd.R_mono (ok' := fun k_ => some k_ ≠ (.slice Ao48 t271.length co48 : Value).ownBlock ∧ some k_ ≠ (.slice Ao52 t277.length co52 : Value).ownBlock ∧ some k_ ≠ (.slice Ao53 t280.length co53 : Value).ownBlock ∧ some k_ ≠ (v285 : Value).ownBlock ∧ some k_ ≠ (v290 : Value).ownBlock ∧ some k_ ≠ (v293 : Value).ownBlock) (Kd.R_keptB (HO276.out) hkp (fun k_ hk_ hs_ => (hk_.1.2) hs_)) (fun k_ hk_ => ⟨hk_.1.1.1.1.1.1.2, hk_.1.1.1.1.1.2, hk_.1.1.1.1.2, hk_.1.1.1.2, hk_.1.2, fun e_ => Or.elim (ho0.1 k_ e_.symm) (fun hs_ => hk_.2.1 hs_) (fun hn_ => Nat.not_le.2 hk_.2.2 hn_)⟩)); have n2_ := Aside0.mk (Kd.R_mono (ok' := fun k_ => some k_ ≠ (.slice Ao48 t271.length co48 : Value).ownBlock ∧ some k_ ≠ (.slice Ao49 t274.length co49 : Value).ownBlock ∧ some k_ ≠ (.slice Ao53 t280.length co53 : Value).ownBlock ∧ some k_ ≠ (v285 : Value).ownBlock ∧ some k_ ≠ (v290 : Value).ownBlock ∧ some k_ ≠ (v293 : Value).ownBlock) (Kd.R_keptB (HO279.out) hkp (fun k_ hk_ hs_ => (hk_.1.2) hs_)) (fun k_ hk_ => ⟨hk_.1.1.1.1.1.1.2, hk_.1.1.1.1.1.2, hk_.1.1.1.1.2, hk_.1.1.1.2, hk_.1.2, fun e_ => Or.elim (ho0.1 k_ e_.symm) (fun hs_ => hk_.2.1 hs_) (fun hn_ => Nat.not_le.2 hk_.2.2 hn_)⟩)); have n3_ := Aside0.mk (Kd.R_mono (ok' := fun k_ => some k_ ≠ (.slice Ao48 t271.length co48 : Value).ownBlock ∧ some k_ ≠ (.slice Ao49 t274.length co49 : Value).ownBlock ∧ some k_ ≠ (.slice Ao52 t277.length co52 : Value).ownBlock ∧ some k_ ≠ (v285 : Value).ownBlock ∧ some k_ ≠ (v290 : Value).ownBlock ∧ some k_ ≠ (v293 : Value).ownBlock) (Kd.R_keptB (HO282.out) hkp (fun k_ hk_ hs_ => (hk_.1.2) hs_)) (fun k_ hk_ => ⟨hk_.1.1.1.1.1.1.2, hk_.1.1.1.1.1.2, hk_.1.1.1.1.2, hk_.1.1.1.2, hk_.1.2, fun e_ => Or.elim (ho0.1 k_ e_.symm) (fun hs_ => hk_.2.1 hs_) (fun hn_ => Nat.not_le.2 hk_.2.2 hn_)⟩)); have n4_ := Aside0.mk (Kd.R_mono (ok' := fun k_ => some k_ ≠ (.slice Ao48 t271.length co48 : Value).ownBlock ∧ some k_ ≠ (.slice Ao49 t274.length co49 : Value).ownBlock ∧ some k_ ≠ (.slice Ao52 t277.length co52 : Value).ownBlock ∧ some k_ ≠ (.slice Ao53 t280.length co53 : Value).ownBlock ∧ some k_ ≠ (v290 : Value).ownBlock ∧ some k_ ≠ (v293 : Value).ownBlock) (Kd.R_keptB (HO286.out) hkp (fun k_ hk_ hs_ => (hk_.1.1.1.1.1) hs_)) (fun k_ hk_ => ⟨hk_.1.1.1.1.1.2, hk_.1.1.1.1.2, hk_.1.1.1.2, hk_.1.1.2, hk_.1.2, fun e_ => Or.elim (ho0.1 k_ e_.symm) (fun hs_ => hk_.2.1 hs_) (fun hn_ => Nat.not_le.2 hk_.2.2 hn_)⟩)); have n5_ := Aside0.mk (Kd.R_mono (ok' := fun k_ => some k_ ≠ (.slice Ao48 t271.length co48 : Value).ownBlock ∧ some k_ ≠ (.slice Ao49 t274.length co49 : Value).ownBlock ∧ some k_ ≠ (.slice Ao52 t277.length co52 : Value).ownBlock ∧ some k_ ≠ (.slice Ao53 t280.length co53 : Value).ownBlock ∧ some k_ ≠ (v285 : Value).ownBlock ∧ some k_ ≠ (v293 : Value).ownBlock) (Kd.R_keptB (HO291.out) hkp (fun k_ hk_ hs_ => (hk_.2) hs_)) (fun k_ hk_ => ⟨hk_.1.1.1.1.1.1.2, hk_.1.1.1.1.1.2, hk_.1.1.1.1.2, hk_.1.1.1.2, hk_.1.1.2, fun e_ => Or.elim (ho0.1 k_ e_.symm) (fun hs_ => hk_.2.1 hs_) (fun hn_ => Nat.not_le.2 hk_.2.2 hn_)⟩)); have n6_ := Aside0.mk (Kd.R_mono (ok' := fun k_ => some k_ ≠ (.slice Ao48 t271.length co48 : Value).ownBlock ∧ some k_ ≠ (.slice Ao49 t274.length co49 : Value).ownBlock ∧ some k_ ≠ (.slice Ao52 t277.length co52 : Value).ownBlock ∧ some k_ ≠ (.slice Ao53 t280.length co53 : Value).ownBlock ∧ some k_ ≠ (v285 : Value).ownBlock ∧ some k_ ≠ (v290 : Value).ownBlock) ho0 (fun k_ hk_ => ⟨Or.elim hk_ (fun hs_ => fun e_ => (((HO273.out).1 k_ e_.symm).1.2) hs_) (fun hn_ => (Kd.fresh' (Kd.R_lt (by (with_reducible repeat (first | apply Kd.R_alloc | apply Kd.R_drewN | apply Kd.R_drew)); exact HO273.out)) k_ hn_)), Or.elim hk_ (fun hs_ => fun e_ => (((HO276.out).1 k_ e_.symm).1.2) hs_) (fun hn_ => (Kd.fresh' (Kd.R_lt (by (with_reducible repeat (first | apply Kd.R_alloc | apply Kd.R_drewN | apply Kd.R_drew)); exact HO276.out)) k_ hn_)), Or.elim hk_ (fun hs_ => fun e_ => (((HO279.out).1 k_ e_.symm).1.2) hs_) (fun hn_ => (Kd.fresh' (Kd.R_lt (by (with_reducible repeat (first | apply Kd.R_alloc | apply Kd.R_drewN | apply Kd.R_drew)); exact HO279.out)) k_ hn_)), Or.elim hk_ (fun hs_ => fun e_ => (((HO282.out).1 k_ e_.symm).1.2) hs_) (fun hn_ => (Kd.fresh' (Kd.R_lt (by (with_reducible repeat (first | apply Kd.R_alloc | apply Kd.R_drewN | apply Kd.R_drew)); exact HO282.out)) k_ hn_)), Or.elim hk_ (fun hs_ => fun e_ => (((HO286.out).1 k_ e_.symm).1.1.1.1.1) hs_) (fun hn_ => (Kd.fresh' (Kd.R_lt (by (with_reducible repeat (first | apply Kd.R_alloc | apply Kd.R_drewN | apply Kd.R_drew)); exact HO286.out)) k_ hn_)), Or.elim hk_ (fun hs_ => fun e_ => (((HO291.out).1 k_ e_.symm).2) hs_) (fun hn_ => (Kd.fresh' (Kd.R_lt (by (with_reducible repeat (first | apply Kd.R_alloc | apply Kd.R_drewN | apply Kd.R_drew)); exact HO291.out)) k_ hn_))⟩)); have n7_ := Aside0.mk (hb); clear HO273; clear HO276; clear HO279; clear HO282; clear HO286; clear HO291; clear HB; clear HO288; have HO273 := n0_; have HO276 := n1_; have HO279 := n2_; have HO282 := n3_; have HO286 := n4_; have HO291 := n5_; have HO294 := n6_; have HB := n7_; clear n0_ n1_ n2_ n3_ n4_ n5_ n6_ n7_; (try clear hb); (try clear hkp); (try clear ho0); obtain ⟨Ao58, co58, eo58⟩ := Kd.R_slice HO294.out; subst eo58) | ((with_reducible refine gate_callee (f := 44) rfl ?_); refine goesL_ (some 43) rfl rfl Try.func44 (by kernel_rfl) rfl #[.int .i64 a2] rfl (by (try simp only [List.map_toArray, List.map_cons, List.map_nil]); first | done | rfl | (simp only [List.length_drop, List.length_take]; rfl)) ?_; (with_reducible refine (soukref01_bits.calls k a2 t305 _ A41.out).mono ?_); rintro e w59 ⟨v306, rfl, ho0, hb⟩; refine ⟨_, rfl, ?_⟩; have n0_ := Aside0.mk (Kd.R_elder' (by (with_reducible repeat (first | apply Kd.R_alloc | apply Kd.R_drewN | apply Kd.R_drew)); exact HO273.out) (Kd.R_base ho0) hb); have n1_ := Aside0.mk (Kd.R_elder' (by (with_reducible repeat (first | apply Kd.R_alloc | apply Kd.R_drewN | apply Kd.R_drew)); exact HO276.out) (Kd.R_base ho0) hb); have n2_ := Aside0.mk (Kd.R_elder' (by (with_reducible repeat (first | apply Kd.R_alloc | apply Kd.R_drewN | apply Kd.R_drew)); exact HO279.out) (Kd.R_base ho0) hb); have n3_ := Aside0.mk (Kd.R_elder' (by (with_reducible repeat (first | apply Kd.R_alloc | apply Kd.R_drewN | apply Kd.R_drew)); exact HO282.out) (Kd.R_base ho0) hb); have n4_ := Aside0.mk (Kd.R_elder' (by (with_reducible repeat (first | apply Kd.R_alloc | apply Kd.R_drewN | apply Kd.R_drew)); exact HO286.out) (Kd.R_base ho0) hb); have n5_ := Aside0.mk (Kd.R_elder' (by (with_reducible repeat (first | apply Kd.R_alloc | apply Kd.R_drewN | apply Kd.R_drew)); exact HO291.out) (Kd.R_base ho0) hb); have n6_ := Aside0.mk (Kd.R_elder' (by (with_reducible repeat (first | apply Kd.R_alloc | apply Kd.R_drewN | apply Kd.R_drew)); exact HO294.out) (Kd.R_base ho0) hb); have n7_ := Aside0.mk (Kd.R_lower (Kd.R_new' (Kd.R_new' (Kd.R_new' (Kd.R_new' (Kd.R_new' (Kd.R_new' (Kd.R_new' ho0 (Kd.R_lt (by (with_reducible repeat (first | apply Kd.R_alloc | apply Kd.R_drewN | apply Kd.R_drew)); exact HO273.out))) (Kd.R_lt (by (with_reducible repeat (first | apply Kd.R_alloc | apply Kd.R_drewN | apply Kd.R_drew)); exact HO276.out))) (Kd.R_lt (by (with_reducible repeat (first | apply Kd.R_alloc | apply Kd.R_drewN | apply Kd.R_drew)); exact HO279.out))) (Kd.R_lt (by (with_reducible repeat (first | apply Kd.R_alloc | apply Kd.R_drewN | apply Kd.R_drew)); exact HO282.out))) (Kd.R_lt (by (with_reducible repeat (first | apply Kd.R_alloc | apply Kd.R_drewN | apply Kd.R_drew)); exact HO286.out))) (Kd.R_lt (by (with_reducible repeat (first | apply Kd.R_alloc | apply Kd.R_drewN | apply Kd.R_drew)); exact HO291.out))) (Kd.R_lt (by (with_reducible repeat (first | apply Kd.R_alloc | apply Kd.R_drewN | apply Kd.R_drew)); exact HO294.out))) (below_size (by repeat (first | (with_reducible first | exact HB.out | apply below_alloc | apply pw_below_drewN | apply below_drew1) | exact HB.out)))); have n8_ := Aside0.mk (below_step (by repeat (first | (with_reducible first | exact HB.out | apply below_alloc | apply pw_below_drewN | apply below_drew1) | exact HB.out)) hb); clear HO273; clear HO276; clear HO279; clear HO282; clear HO286; clear HO291; clear HO294; clear HB; have HO273 := n0_; have HO276 := n1_; have HO279 := n2_; have HO282 := n3_; have HO286 := n4_; have HO291 := n5_; have HO294 := n6_; have HO307 := n7_; have HB := n8_; clear n0_ n1_ n2_ n3_ n4_ n5_ n6_ n7_ n8_; (try clear hb); (try clear hb2); (try clear hk); (try clear hi); (try clear ho0); obtain ⟨Ao60, co60, eo60⟩ := Kd.R_slice HO291.out; subst eo60; obtain ⟨Ao61, co61, eo61⟩ := Kd.R_slice HO307.out; subst eo61) | ((with_reducible refine gate_callee (f := 47) rfl ?_); refine goesL_ (some 44) rfl rfl Try.func47 (by kernel_rfl) rfl #[.slice Ao60 t289.length co60, .slice Ao61 t305.length co61] rfl (by (try simp only [List.map_toArray, List.map_cons, List.map_nil]); first | done | rfl | (simp only [List.length_drop, List.length_take]; rfl)) ?_; (with_reducible refine (soukref01_less.calls k _ _ t289 _ _ t305 t308 _ ?side1 ?side2 ?side3 ?side4 A42.out).mono ?_); (case side1 => repeat (first | exact (Kd.R_reads' HO291.out).2.2 | (with_reducible refine Kd.C_alloc ?_ _) | (with_reducible refine Kd.C_drewN ?_ _) | (with_reducible refine Kd.C_drew ?_))); (case side2 => exact (Kd.R_reads' HO291.out).2.1); (case side3 => repeat (first | exact (Kd.R_reads' HO307.out).2.2 | (with_reducible refine Kd.C_alloc ?_ _) | (with_reducible refine Kd.C_drewN ?_ _) | (with_reducible refine Kd.C_drew ?_))); (case side4 => exact (Kd.R_reads' HO307.out).2.1); rintro e w62 ⟨rfl, hb⟩; refine ⟨_, rfl, ?_⟩; have n0_ := Aside0.mk (Kd.R_below (by (with_reducible repeat (first | apply Kd.R_alloc | apply Kd.R_drewN | apply Kd.R_drew)); exact HO273.out) hb); have n1_ := Aside0.mk (Kd.R_below (by (with_reducible repeat (first | apply Kd.R_alloc | apply Kd.R_drewN | apply Kd.R_drew)); exact HO276.out) hb); have n2_ := Aside0.mk (Kd.R_below (by (with_reducible repeat (first | apply Kd.R_alloc | apply Kd.R_drewN | apply Kd.R_drew)); exact HO279.out) hb); have n3_ := Aside0.mk (Kd.R_below (by (with_reducible repeat (first | apply Kd.R_alloc | apply Kd.R_drewN | apply Kd.R_drew)); exact HO282.out) hb); have n4_ := Aside0.mk (Kd.R_below (by (with_reducible repeat (first | apply Kd.R_alloc | apply Kd.R_drewN | apply Kd.R_drew)); exact HO286.out) hb); have n5_ := Aside0.mk (Kd.R_below (by (with_reducible repeat (first | apply Kd.R_alloc | apply Kd.R_drewN | apply Kd.R_drew)); exact HO291.out) hb); have n6_ := Aside0.mk (Kd.R_below (by (with_reducible repeat (first | apply Kd.R_alloc | apply Kd.R_drewN | apply Kd.R_drew)); exact HO294.out) hb); have n7_ := Aside0.mk (Kd.R_below (by (with_reducible repeat (first | apply Kd.R_alloc | apply Kd.R_drewN | apply Kd.R_drew)); exact HO307.out) hb); have n8_ := Aside0.mk (below_step (by repeat (first | (with_reducible first | exact HB.out | apply below_alloc | apply pw_below_drewN | apply below_drew1) | exact HB.out)) hb); clear HO273; clear HO276; clear HO279; clear HO282; clear HO286; clear HO291; clear HO294; clear HO307; clear HB; have HO273 := n0_; have HO276 := n1_; have HO279 := n2_; have HO282 := n3_; have HO286 := n4_; have HO291 := n5_; have HO294 := n6_; have HO307 := n7_; have HB := n8_; clear n0_ n1_ n2_ n3_ n4_ n5_ n6_ n7_ n8_; (try clear hb); (try clear hb2); (try clear hk); (try clear hi)) | ((with_reducible refine gate_callee (f := 44) rfl ?_); refine goesL_ (some 46) rfl rfl Try.func44 (by kernel_rfl) rfl #[.int .i64 a2] rfl (by (try simp only [List.map_toArray, List.map_cons, List.map_nil]); first | done | rfl | (simp only [List.length_drop, List.length_take]; rfl)) ?_; (with_reducible refine (soukref01_bits.calls k a2 t309 _ A43.out).mono ?_); rintro e w63 ⟨v310, rfl, ho0, hb⟩; refine ⟨_, rfl, ?_⟩; have n0_ := Aside0.mk (Kd.R_elder' (by (with_reducible repeat (first | apply Kd.R_alloc | apply Kd.R_drewN | apply Kd.R_drew)); exact HO273.out) (Kd.R_base ho0) hb); have n1_ := Aside0.mk (Kd.R_elder' (by (with_reducible repeat (first | apply Kd.R_alloc | apply Kd.R_drewN | apply Kd.R_drew)); exact HO276.out) (Kd.R_base ho0) hb); have n2_ := Aside0.mk (Kd.R_elder' (by (with_reducible repeat (first | apply Kd.R_alloc | apply Kd.R_drewN | apply Kd.R_drew)); exact HO279.out) (Kd.R_base ho0) hb); have n3_ := Aside0.mk (Kd.R_elder' (by (with_reducible repeat (first | apply Kd.R_alloc | apply Kd.R_drewN | apply Kd.R_drew)); exact HO282.out) (Kd.R_base ho0) hb); have n4_ := Aside0.mk (Kd.R_elder' (by (with_reducible repeat (first | apply Kd.R_alloc | apply Kd.R_drewN | apply Kd.R_drew)); exact HO286.out) (Kd.R_base ho0) hb); have n5_ := Aside0.mk (Kd.R_elder' (by (with_reducible repeat (first | apply Kd.R_alloc | apply Kd.R_drewN | apply Kd.R_drew)); exact HO291.out) (Kd.R_base ho0) hb); have n6_ := Aside0.mk (Kd.R_elder' (by (with_reducible repeat (first | apply Kd.R_alloc | apply Kd.R_drewN | apply Kd.R_drew)); exact HO294.out) (Kd.R_base ho0) hb); have n7_ := Aside0.mk (Kd.R_elder' (by (with_reducible repeat (first | apply Kd.R_alloc | apply Kd.R_drewN | apply Kd.R_drew)); exact HO307.out) (Kd.R_base ho0) hb); have n8_ := Aside0.mk (Kd.R_lower (Kd.R_new' (Kd.R_new' (Kd.R_new' (Kd.R_new' (Kd.R_new' (Kd.R_new' (Kd.R_new' (Kd.R_new' ho0 (Kd.R_lt (by (with_reducible repeat (first | apply Kd.R_alloc | apply Kd.R_drewN | apply Kd.R_drew)); exact HO273.out))) (Kd.R_lt (by (with_reducible repeat (first | apply Kd.R_alloc | apply Kd.R_drewN | apply Kd.R_drew)); exact HO276.out))) (Kd.R_lt (by (with_reducible repeat (first | apply Kd.R_alloc | apply Kd.R_drewN | apply Kd.R_drew)); exact HO279.out))) (Kd.R_lt (by (with_reducible repeat (first | apply Kd.R_alloc | apply Kd.R_drewN | apply Kd.R_drew)); exact HO282.out))) (Kd.R_lt (by (with_reducible repeat (first | apply Kd.R_alloc | apply Kd.R_drewN | apply Kd.R_drew)); exact HO286.out))) (Kd.R_lt (by (with_reducible repeat (first | apply Kd.R_alloc | apply Kd.R_drewN | apply Kd.R_drew)); exact HO291.out))) (Kd.R_lt (by (with_reducible repeat (first | apply Kd.R_alloc | apply Kd.R_drewN | apply Kd.R_drew)); exact HO294.out))) (Kd.R_lt (by (with_reducible repeat (first | apply Kd.R_alloc | apply Kd.R_drewN | apply Kd.R_drew)); exact HO307.out))) (below_size (by repeat (first | (with_reducible first | exact HB.out | apply below_alloc | apply pw_below_drewN | apply below_drew1) | exact HB.out)))); have n9_ := Aside0.mk (below_step (by repeat (first | (with_reducible first | exact HB.out | apply below_alloc | apply pw_below_drewN | apply below_drew1) | exact HB.out)) hb); clear HO273; clear HO276; clear HO279; clear HO282; clear HO286; clear HO291; clear HO294; clear HO307; clear HB; have HO273 := n0_; have HO276 := n1_; have HO279 := n2_; have HO282 := n3_; have HO286 := n4_; have HO291 := n5_; have HO294 := n6_; have HO307 := n7_; have HO311 := n8_; have HB := n9_; clear n0_ n1_ n2_ n3_ n4_ n5_ n6_ n7_ n8_ n9_; (try clear hb); (try clear hb2); (try clear hk); (try clear hi); (try clear ho0); obtain ⟨Ao64, co64, eo64⟩ := Kd.R_slice HO311.out; subst eo64) | ((with_reducible refine gate_callee (f := 47) rfl ?_); refine goesL_ (some 48) rfl rfl Try.func47 (by kernel_rfl) rfl #[.slice Ao64 t309.length co64, .slice Ao60 t289.length co60] rfl (by (try simp only [List.map_toArray, List.map_cons, List.map_nil]); first | done | rfl | (simp only [List.length_drop, List.length_take]; rfl)) ?_; (with_reducible refine (soukref01_less.calls k _ _ t309 _ _ t289 t312 _ ?side1 ?side2 ?side3 ?side4 A44.out).mono ?_); (case side1 => repeat (first | exact (Kd.R_reads' HO311.out).2.2 | (with_reducible refine Kd.C_alloc ?_ _) | (with_reducible refine Kd.C_drewN ?_ _) | (with_reducible refine Kd.C_drew ?_))); (case side2 => exact (Kd.R_reads' HO311.out).2.1); (case side3 => repeat (first | exact (Kd.R_reads' HO291.out).2.2 | (with_reducible refine Kd.C_alloc ?_ _) | (with_reducible refine Kd.C_drewN ?_ _) | (with_reducible refine Kd.C_drew ?_))); (case side4 => exact (Kd.R_reads' HO291.out).2.1); rintro e w65 ⟨rfl, hb⟩; refine ⟨_, rfl, ?_⟩; have n0_ := Aside0.mk (Kd.R_below (by (with_reducible repeat (first | apply Kd.R_alloc | apply Kd.R_drewN | apply Kd.R_drew)); exact HO273.out) hb); have n1_ := Aside0.mk (Kd.R_below (by (with_reducible repeat (first | apply Kd.R_alloc | apply Kd.R_drewN | apply Kd.R_drew)); exact HO276.out) hb); have n2_ := Aside0.mk (Kd.R_below (by (with_reducible repeat (first | apply Kd.R_alloc | apply Kd.R_drewN | apply Kd.R_drew)); exact HO279.out) hb); have n3_ := Aside0.mk (Kd.R_below (by (with_reducible repeat (first | apply Kd.R_alloc | apply Kd.R_drewN | apply Kd.R_drew)); exact HO282.out) hb); have n4_ := Aside0.mk (Kd.R_below (by (with_reducible repeat (first | apply Kd.R_alloc | apply Kd.R_drewN | apply Kd.R_drew)); exact HO286.out) hb); have n5_ := Aside0.mk (Kd.R_below (by (with_reducible repeat (first | apply Kd.R_alloc | apply Kd.R_drewN | apply Kd.R_drew)); exact HO291.out) hb); have n6_ := Aside0.mk (Kd.R_below (by (with_reducible repeat (first | apply Kd.R_alloc | apply Kd.R_drewN | apply Kd.R_drew)); exact HO294.out) hb); have n7_ := Aside0.mk (Kd.R_below (by (with_reducible repeat (first | apply Kd.R_alloc | apply Kd.R_drewN | apply Kd.R_drew)); exact HO307.out) hb); have n8_ := Aside0.mk (Kd.R_below (by (with_reducible repeat (first | apply Kd.R_alloc | apply Kd.R_drewN | apply Kd.R_drew)); exact HO311.out) hb); have n9_ := Aside0.mk (below_step (by repeat (first | (with_reducible first | exact HB.out | apply below_alloc | apply pw_below_drewN | apply below_drew1) | exact HB.out)) hb); clear HO273; clear HO276; clear HO279; clear HO282; clear HO286; clear HO291; clear HO294; clear HO307; clear HO311; clear HB; have HO273 := n0_; have HO276 := n1_; have HO279 := n2_; have HO282 := n3_; have HO286 := n4_; have HO291 := n5_; have HO294 := n6_; have HO307 := n7_; have HO311 := n8_; have HB := n9_; clear n0_ n1_ n2_ n3_ n4_ n5_ n6_ n7_ n8_ n9_; (try clear hb); (try clear hb2); (try clear hk); (try clear hi)))
   (try simp only [Act.put, List.setIfInBounds_toArray, List.set_cons_zero, List.set_cons_succ])
   go_cut [17] (fun v17 wc => ∃ (kq : Nat) (x17_44 : Bool), v17 = .bool x17_44 ∧ Aside0 (soukref01_MulDiv.j0 kq a3 true t283 false t308 t312 x17_44 = some (r1, r2)) ∧ Aside0 (kq ≤ k) ∧ Aside0 (Kd.R Kd.bool 4 wc w.heap.size (fun _ => True) v285 t283) ∧ Aside0 (Below w.heap.size w wc))
   case first =>
    have H := HC45.out
    clear HC45
    by_cases c66 : a3 = 0
    ·rw [if_pos c66] at H
     have c66b0 : (a3 == 0) = true := beq_iff_eq.mpr c66
     have c66b1 : (a3 != 0) = false := bne_eq_false_iff_eq.mpr c66
     clear c66
     (first | rw [c66b0] | (simp only [i64_w, i32_w]; rw [c66b0]) | skip)
     have H' := Aside0.mk H
     clear H
     go_wp2
     go_meet
     case rel => exact ⟨_, (true), (by first | rfl | (simp; done) | (simp [*]; done)), H', ⟨by first | omega | exact Nat.le_refl _⟩, ⟨by (with_reducible repeat (first | apply Kd.R_alloc | apply Kd.R_drewN | apply Kd.R_drew)); exact Kd.R_mono HO286.out (fun _ hk => trivial)⟩, ⟨by repeat (first | (with_reducible first | exact HB.out | apply below_alloc | apply pw_below_drewN | apply below_drew1) | exact HB.out)⟩⟩
    ·rw [if_neg c66] at H
     have c66b0 : (a3 == 0) = false := beq_eq_false_iff_ne.mpr c66
     have c66b1 : (a3 != 0) = true := bne_iff_ne.mpr c66
     (first | rw [c66b0] | (simp only [i64_w, i32_w]; rw [c66b0]) | skip)
     by_cases c67 : a3 = 1
     ·rw [if_pos c67] at H
      have c67b0 : (a3 == 1) = true := beq_iff_eq.mpr c67
      have c67b1 : (a3 != 1) = false := bne_eq_false_iff_eq.mpr c67
      clear c67
      by_cases c68 : a3 = 2
      ·rw [if_pos c68] at H
       have c68b0 : (a3 == 2) = true := beq_iff_eq.mpr c68
       have c68b1 : (a3 != 2) = false := bne_eq_false_iff_eq.mpr c68
       clear c68
       have H' := Aside0.mk H
       clear H
       go_wp2
       go_meet
       case rel => exact ⟨_, (t312), (by first | rfl | (simp; done) | (simp [*]; done)), H', ⟨by first | omega | exact Nat.le_refl _⟩, ⟨by (with_reducible repeat (first | apply Kd.R_alloc | apply Kd.R_drewN | apply Kd.R_drew)); exact Kd.R_mono HO286.out (fun _ hk => trivial)⟩, ⟨by repeat (first | (with_reducible first | exact HB.out | apply below_alloc | apply pw_below_drewN | apply below_drew1) | exact HB.out)⟩⟩
      ·rw [if_neg c68] at H
       have c68b0 : (a3 == 2) = false := beq_eq_false_iff_ne.mpr c68
       have c68b1 : (a3 != 2) = true := bne_iff_ne.mpr c68
       have H' := Aside0.mk H
       clear H
       go_wp2
       go_meet
       case rel => exact ⟨_, (false), (by first | rfl | (simp; done) | (simp [*]; done)), H', ⟨by first | omega | exact Nat.le_refl _⟩, ⟨by (with_reducible repeat (first | apply Kd.R_alloc | apply Kd.R_drewN | apply Kd.R_drew)); exact Kd.R_mono HO286.out (fun _ hk => trivial)⟩, ⟨by repeat (first | (with_reducible first | exact HB.out | apply below_alloc | apply pw_below_drewN | apply below_drew1) | exact HB.out)⟩⟩
     ·rw [if_neg c67] at H
      have c67b0 : (a3 == 1) = false := beq_eq_false_iff_ne.mpr c67
      have c67b1 : (a3 != 1) = true := bne_iff_ne.mpr c67
      by_cases c69 : a3 = 2
      ·rw [if_pos c69] at H
       have c69b0 : (a3 == 2) = true := beq_iff_eq.mpr c69
       have c69b1 : (a3 != 2) = false := bne_eq_false_iff_eq.mpr c69
       clear c69
       have H' := Aside0.mk H
       clear H
       go_wp2
       go_meet
       case rel => exact ⟨_, (t312), (by first | rfl | (simp; done) | (simp [*]; done)), H', ⟨by first | omega | exact Nat.le_refl _⟩, ⟨by (with_reducible repeat (first | apply Kd.R_alloc | apply Kd.R_drewN | apply Kd.R_drew)); exact Kd.R_mono HO286.out (fun _ hk => trivial)⟩, ⟨by repeat (first | (with_reducible first | exact HB.out | apply below_alloc | apply pw_below_drewN | apply below_drew1) | exact HB.out)⟩⟩
      ·rw [if_neg c69] at H
       have c69b0 : (a3 == 2) = false := beq_eq_false_iff_ne.mpr c69
       have c69b1 : (a3 != 2) = true := bne_iff_ne.mpr c69
       have H' := Aside0.mk H
       clear H
       go_wp2
       go_meet
       case rel => exact ⟨_, (false), (by first | rfl | (simp; done) | (simp [*]; done)), H', ⟨by first | omega | exact Nat.le_refl _⟩, ⟨by (with_reducible repeat (first | apply Kd.R_alloc | apply Kd.R_drewN | apply Kd.R_drew)); exact Kd.R_mono HO286.out (fun _ hk => trivial)⟩, ⟨by repeat (first | (with_reducible first | exact HB.out | apply below_alloc | apply pw_below_drewN | apply below_drew1) | exact HB.out)⟩⟩
   case rest =>
    clear HC45
    try clear c1
    try clear p2
    try clear c4
    try clear c5
    try clear c5b0
    try clear c5b1
    try clear c5b2
    try clear c6
    try clear c13
    try clear c13b0
    try clear c13b1
    try clear c13b2
    try clear c19
    try clear c42
    try clear c43
    try clear c44
    try clear c45
    try clear c46
    try clear c47
    try clear c49
    try clear c66
    try clear c66b0
    try clear c66b1
    try clear c67
    try clear c67b0
    try clear c67b1
    try clear c68
    try clear c68b0
    try clear c68b1
    try clear c69
    try clear c69b0
    try clear c69b1
    obtain ⟨kq, x17_44, rfl, HA, HJ44, HO_11, HB⟩ := hcut
    cases kq with
    | zero => exact absurd HA.out (by simp [soukref01_MulDiv.j0])
    | succ kj44 =>
     have H := HA.out
     clear HA
     simp only [soukref01_MulDiv.j0] at H
     have HC70 := Aside0.mk H
     clear H
     go_upto_region 8 with (fail)
     go_cut [90] (fun v90 wc => ∃ (kq : Nat) (x90_69 : Bool), v90 = .bool x90_69 ∧ Aside0 (soukref01_MulDiv.j1 kq true t283 x17_44 x90_69 = some (r1, r2)) ∧ Aside0 (kq ≤ kj44) ∧ Aside0 (Kd.R Kd.bool 4 wc w.heap.size (fun _ => True) v285 t283) ∧ Aside0 (Below w.heap.size w wc))
     case first =>
      have H := HC70.out
      clear HC70
      have H1 : (if a3 = 2 then (if t308 = true then (soukref01_MulDiv.j1 kj44 true t283 x17_44 false) else (if t312 = true then (soukref01_MulDiv.j1 kj44 true t283 x17_44 false) else ((soukref01_Wide_at.f t283 0).bind fun t313 => (soukref01_MulDiv.j1 kj44 true t283 x17_44 t313)))) else (soukref01_MulDiv.j1 kj44 true t283 x17_44 false)) = some (r1, r2) := by first | (rw [if_neg (show ¬ (false = true) by decide)] at H; exact H) | (rw [if_neg (fun h => h)] at H; exact H)
      clear H
      have H := H1
      clear H1
      by_cases c71 : a3 = 2
      ·rw [if_pos c71] at H
       have c71b0 : (a3 == 2) = true := beq_iff_eq.mpr c71
       have c71b1 : (a3 != 2) = false := bne_eq_false_iff_eq.mpr c71
       clear c71
       (first | rw [c71b0] | (simp only [i64_w, i32_w]; rw [c71b0]) | skip)
       by_cases c72 : t308 = true
       ·subst c72
        have H1 : (soukref01_MulDiv.j1 kj44 true t283 x17_44 false) = some (r1, r2) := by rw [if_pos rfl] at H; exact H
        clear H
        have H := H1
        clear H1
        have H' := Aside0.mk H
        clear H
        go_wp2
        go_meet
        case rel => exact ⟨_, (false), (by first | rfl | (simp; done) | (simp [*]; done)), H', ⟨by have := HJ44.out; first | omega | exact Nat.le_refl _⟩, ⟨by (with_reducible repeat (first | apply Kd.R_alloc | apply Kd.R_drewN | apply Kd.R_drew)); exact HO_11.out⟩, ⟨by repeat (first | (with_reducible first | exact HB.out | apply below_alloc | apply pw_below_drewN | apply below_drew1) | exact HB.out)⟩⟩
       ·replace c72 := Bool.eq_false_iff.mpr c72
        subst c72
        have H1 : (if t312 = true then (soukref01_MulDiv.j1 kj44 true t283 x17_44 false) else ((soukref01_Wide_at.f t283 0).bind fun t313 => (soukref01_MulDiv.j1 kj44 true t283 x17_44 t313))) = some (r1, r2) := by rw [if_neg (show ¬ (false = true) by decide)] at H; exact H
        clear H
        have H := H1
        clear H1
        by_cases c73 : t312 = true
        ·subst c73
         have H1 : (soukref01_MulDiv.j1 kj44 true t283 x17_44 false) = some (r1, r2) := by rw [if_pos rfl] at H; exact H
         clear H
         have H := H1
         clear H1
         have H' := Aside0.mk H
         clear H
         go_wp2
         go_meet
         case rel => exact ⟨_, (false), (by first | rfl | (simp; done) | (simp [*]; done)), H', ⟨by have := HJ44.out; first | omega | exact Nat.le_refl _⟩, ⟨by (with_reducible repeat (first | apply Kd.R_alloc | apply Kd.R_drewN | apply Kd.R_drew)); exact HO_11.out⟩, ⟨by repeat (first | (with_reducible first | exact HB.out | apply below_alloc | apply pw_below_drewN | apply below_drew1) | exact HB.out)⟩⟩
        ·replace c73 := Bool.eq_false_iff.mpr c73
         subst c73
         have H1 : ((soukref01_Wide_at.f t283 0).bind fun t313 => (soukref01_MulDiv.j1 kj44 true t283 x17_44 t313)) = some (r1, r2) := by rw [if_neg (show ¬ (false = true) by decide)] at H; exact H
         clear H
         have H := H1
         clear H1
         replace H := Option.bind_eq_some_iff.mp H
         obtain ⟨t313, A740, H⟩ := H
         replace H : (soukref01_MulDiv.j1 kj44 true t283 x17_44 t313) = some (r1, r2) := H
         have A74 := Aside0.mk A740
         clear A740
         have H' := Aside0.mk H
         clear H
         obtain ⟨Ao75, co75, eo75⟩ := Kd.R_slice HO_11.out
         subst eo75
         go_wp2_with (first | (go_at_call 48; (with_reducible refine (soukref01_Wide_at.calls _ _ t283 0 t313 _ ?side1 ?side2 A74.out).mono ?_); (case side1 => repeat (first | exact (Kd.R_reads' HO_11.out).2.2 | (with_reducible refine Kd.C_alloc ?_ _) | (with_reducible refine Kd.C_drewN ?_ _) | (with_reducible refine Kd.C_drew ?_))); (case side2 => exact (Kd.R_reads' HO_11.out).2.1); rintro e w' ⟨rfl, ⟨nd, rfl⟩⟩))
         go_meet
         case rel => exact ⟨_, (t313), (by first | rfl | (simp; done) | (simp [*]; done)), H', ⟨by have := HJ44.out; first | omega | exact Nat.le_refl _⟩, ⟨by (with_reducible repeat (first | apply Kd.R_alloc | apply Kd.R_drewN | apply Kd.R_drew)); exact HO_11.out⟩, ⟨by repeat (first | (with_reducible first | exact HB.out | apply below_alloc | apply pw_below_drewN | apply below_drew1) | exact HB.out)⟩⟩
      ·rw [if_neg c71] at H
       have c71b0 : (a3 == 2) = false := beq_eq_false_iff_ne.mpr c71
       have c71b1 : (a3 != 2) = true := bne_iff_ne.mpr c71
       (first | rw [c71b0] | (simp only [i64_w, i32_w]; rw [c71b0]) | skip)
       have H' := Aside0.mk H
       clear H
       go_wp2
       go_meet
       case rel => exact ⟨_, (false), (by first | rfl | (simp; done) | (simp [*]; done)), H', ⟨by have := HJ44.out; first | omega | exact Nat.le_refl _⟩, ⟨by (with_reducible repeat (first | apply Kd.R_alloc | apply Kd.R_drewN | apply Kd.R_drew)); exact HO_11.out⟩, ⟨by repeat (first | (with_reducible first | exact HB.out | apply below_alloc | apply pw_below_drewN | apply below_drew1) | exact HB.out)⟩⟩
     case rest =>
      clear HC70
      try clear c1
      try clear p2
      try clear c4
      try clear c5
      try clear c5b0
      try clear c5b1
      try clear c5b2
      try clear c6
      try clear c7
      try clear c13
      try clear c13b0
      try clear c13b1
      try clear c13b2
      try clear c19
      try clear c42
      try clear c43
      try clear c44
      try clear c45
      try clear c46
      try clear c47
      try clear c49
      try clear c66
      try clear c66b0
      try clear c66b1
      try clear c67
      try clear c67b0
      try clear c67b1
      try clear c68
      try clear c68b0
      try clear c68b1
      try clear c69
      try clear c69b0
      try clear c69b1
      try clear c71
      try clear c71b0
      try clear c71b1
      try clear c72
      try clear c73
      try clear p2
      obtain ⟨kq, x90_69, rfl, HA, HJ69, HO_11, HB⟩ := hcut
      cases kq with
      | zero => exact absurd HA.out (by simp [soukref01_MulDiv.j1])
      | succ kj69 =>
       have H := HA.out
       clear HA
       simp only [soukref01_MulDiv.j1] at H
       have HC76 := Aside0.mk H
       clear H
       go_upto_if 90 with (fail)
       go_cut [17] (fun v17 wc => ∃ (kq : Nat) (x17_75 : Bool), v17 = .bool x17_75 ∧ Aside0 (soukref01_MulDiv.j2 kq true t283 x17_75 = some (r1, r2)) ∧ Aside0 (kq ≤ kj69) ∧ Aside0 (Kd.R Kd.bool 4 wc w.heap.size (fun _ => True) v285 t283) ∧ Aside0 (Below w.heap.size w wc))
       case first =>
        have H := HC76.out
        clear HC76
        by_cases c77 : x90_69 = true
        ·subst c77
         have H1 : (soukref01_MulDiv.j2 kj69 true t283 true) = some (r1, r2) := by rw [if_pos rfl] at H; exact H
         clear H
         have H := H1
         clear H1
         have H' := Aside0.mk H
         clear H
         go_wp2
         go_meet
         case rel => exact ⟨_, (true), (by first | rfl | (simp; done) | (simp [*]; done)), H', ⟨by have := HJ44.out; have := HJ69.out; first | omega | exact Nat.le_refl _⟩, ⟨by (with_reducible repeat (first | apply Kd.R_alloc | apply Kd.R_drewN | apply Kd.R_drew)); exact HO_11.out⟩, ⟨by repeat (first | (with_reducible first | exact HB.out | apply below_alloc | apply pw_below_drewN | apply below_drew1) | exact HB.out)⟩⟩
        ·replace c77 := Bool.eq_false_iff.mpr c77
         subst c77
         have H1 : (soukref01_MulDiv.j2 kj69 true t283 x17_44) = some (r1, r2) := by rw [if_neg (show ¬ (false = true) by decide)] at H; exact H
         clear H
         have H := H1
         clear H1
         have H' := Aside0.mk H
         clear H
         go_wp2
         go_meet
         case rel => exact ⟨_, (x17_44), (by first | rfl | (simp; done) | (simp [*]; done)), H', ⟨by have := HJ44.out; have := HJ69.out; first | omega | exact Nat.le_refl _⟩, ⟨by (with_reducible repeat (first | apply Kd.R_alloc | apply Kd.R_drewN | apply Kd.R_drew)); exact HO_11.out⟩, ⟨by repeat (first | (with_reducible first | exact HB.out | apply below_alloc | apply pw_below_drewN | apply below_drew1) | exact HB.out)⟩⟩
       case rest =>
        clear HC76
        try clear c1
        try clear p2
        try clear c4
        try clear c5
        try clear c5b0
        try clear c5b1
        try clear c5b2
        try clear c6
        try clear c7
        try clear c13
        try clear c13b0
        try clear c13b1
        try clear c13b2
        try clear c19
        try clear c42
        try clear c43
        try clear c44
        try clear c45
        try clear c46
        try clear c47
        try clear c49
        try clear c66
        try clear c66b0
        try clear c66b1
        try clear c67
        try clear c67b0
        try clear c67b1
        try clear c68
        try clear c68b0
        try clear c68b1
        try clear c69
        try clear c69b0
        try clear c69b1
        try clear c71
        try clear c71b0
        try clear c71b1
        try clear c72
        try clear c73
        try clear c77
        try clear p2
        obtain ⟨kq, x17_75, rfl, HA, HJ75, HO_11, HB⟩ := hcut
        cases kq with
        | zero => exact absurd HA.out (by simp [soukref01_MulDiv.j2])
        | succ kj75 =>
         have H := HA.out
         clear HA
         simp only [soukref01_MulDiv.j2] at H
         by_cases c78 : x17_75 = true
         ·subst c78
          have H1 : ((soukref01_Plus.f kj75 t283 (([true] : List Bool))).bind fun t317 => ((soukref01_value.f kj75 t317 true).bind fun bt320 => (some (bt320.1, bt320.2)))) = some (r1, r2) := by rw [if_pos rfl] at H; exact H
          clear H
          have H := H1
          clear H1
          obtain ⟨y314, hy314⟩ : ∃ y_ : List Bool, y_ = (([true] : List Bool)) := ⟨_, rfl⟩
          replace H : ((soukref01_Plus.f kj75 t283 y314).bind fun t317 => ((soukref01_value.f kj75 t317 true).bind fun bt320 => (some (bt320.1, bt320.2)))) = some (r1, r2) := by first | (rw [hy314]; with_reducible exact H) | (have H2_ := (Option.bind_some _ _).symm.trans H; rw [hy314]; with_reducible exact H2_) | (have H2_ := (Option.bind_some _ _).symm.trans H; with_reducible exact H2_) | with_reducible exact H | (rw [hy314]; exact H) | exact H
          have Ny314 := Aside0.mk hy314
          clear hy314
          replace H := Option.bind_eq_some_iff.mp H
          obtain ⟨t317, A790, H⟩ := H
          replace H : ((soukref01_value.f kj75 t317 true).bind fun bt320 => (some (bt320.1, bt320.2))) = some (r1, r2) := H
          have A79 := Aside0.mk A790
          clear A790
          replace H := Option.bind_eq_some_iff.mp H
          obtain ⟨⟨t320, t321⟩, A800, H⟩ := H
          replace H : (some (t320, t321)) = some (r1, r2) := H
          have A80 := Aside0.mk A800
          clear A800
          simp only [Option.some.injEq, Prod.mk.injEq] at H
          obtain ⟨rfl, rfl⟩ := H
          go_wp2_with (first | ((with_reducible refine gate_dst (N := 93) rfl ?_); refine Kd.R_lit Kd.bool _ 4 ?hg (N := 93) ?hd (xs := ([true] : List Bool)) (inner := [.bool true]) (ok := fun _ => True) (okp := fun _ => True) ?hr ?hp (fun _ hk => hk) trivial (Below.refl _ _) (Nat.le_refl _) (by simp) ?_; (case hd => rfl); (case hg => rfl); (case hr => first | (go_simp; done) | (go_simp; rfl)); (case hp => exact (Reps.one (show Kd.M Kd.bool _ _ _ true [.bool true] from rfl) (Reps.none _ _))); intro v315 w81 ho82 hb hg_ hnew_; clear hg_ hnew_; (first | rw [← Ny314.out] at ho82 | (simp only [Int.reduceToNat] at ho82; rw [← Ny314.out] at ho82)); have n0_ := Aside0.mk (Kd.R_elder' (by (with_reducible repeat (first | apply Kd.R_alloc | apply Kd.R_drewN | apply Kd.R_drew)); exact HO_11.out) (Kd.R_base ho82) hb); have n1_ := Aside0.mk (Kd.R_lower (Kd.R_new' ho82 (Kd.R_lt (by (with_reducible repeat (first | apply Kd.R_alloc | apply Kd.R_drewN | apply Kd.R_drew)); exact HO_11.out))) (below_size (by repeat (first | (with_reducible first | exact HB.out | apply below_alloc | apply pw_below_drewN | apply below_drew1) | exact HB.out)))); have n2_ := Aside0.mk (below_step (by repeat (first | (with_reducible first | exact HB.out | apply below_alloc | apply pw_below_drewN | apply below_drew1) | exact HB.out)) hb); clear HO_11; clear HB; have HO_11 := n0_; have HO316 := n1_; have HB := n2_; clear n0_ n1_ n2_; clear hb ho82; obtain ⟨Ao83, co83, eo83⟩ := Kd.R_slice HO_11.out; subst eo83; obtain ⟨Ao84, co84, eo84⟩ := Kd.R_slice HO316.out; subst eo84) | ((with_reducible refine gate_callee (f := 45) rfl ?_); refine goesL_ (some 94) rfl rfl Try.func45 (by kernel_rfl) rfl #[.slice Ao83 t283.length co83, .slice Ao84 y314.length co84] rfl (by (try simp only [List.map_toArray, List.map_cons, List.map_nil]); first | done | rfl | (simp only [List.length_drop, List.length_take]; rfl)) ?_; (with_reducible refine (soukref01_Plus.calls kj75 _ _ t283 _ _ y314 t317 _ ?side1 ?side2 ?side3 ?side4 A79.out).mono ?_); (case side1 => repeat (first | exact (Kd.R_reads' HO_11.out).2.2 | (with_reducible refine Kd.C_alloc ?_ _) | (with_reducible refine Kd.C_drewN ?_ _) | (with_reducible refine Kd.C_drew ?_))); (case side2 => exact (Kd.R_reads' HO_11.out).2.1); (case side3 => repeat (first | exact (Kd.R_reads' HO316.out).2.2 | (with_reducible refine Kd.C_alloc ?_ _) | (with_reducible refine Kd.C_drewN ?_ _) | (with_reducible refine Kd.C_drew ?_))); (case side4 => exact (Kd.R_reads' HO316.out).2.1); rintro e w85 ⟨v318, rfl, ho0, hb⟩; refine ⟨_, rfl, ?_⟩; have n0_ := Aside0.mk (Kd.R_elder' (by (with_reducible repeat (first | apply Kd.R_alloc | apply Kd.R_drewN | apply Kd.R_drew)); exact HO_11.out) (Kd.R_base ho0) hb); have n1_ := Aside0.mk (Kd.R_elder' (by (with_reducible repeat (first | apply Kd.R_alloc | apply Kd.R_drewN | apply Kd.R_drew)); exact HO316.out) (Kd.R_base ho0) hb); have n2_ := Aside0.mk (Kd.R_lower (Kd.R_new' (Kd.R_new' ho0 (Kd.R_lt (by (with_reducible repeat (first | apply Kd.R_alloc | apply Kd.R_drewN | apply Kd.R_drew)); exact HO_11.out))) (Kd.R_lt (by (with_reducible repeat (first | apply Kd.R_alloc | apply Kd.R_drewN | apply Kd.R_drew)); exact HO316.out))) (below_size (by repeat (first | (with_reducible first | exact HB.out | apply below_alloc | apply pw_below_drewN | apply below_drew1) | exact HB.out)))); have n3_ := Aside0.mk (below_step (by repeat (first | (with_reducible first | exact HB.out | apply below_alloc | apply pw_below_drewN | apply below_drew1) | exact HB.out)) hb); clear HO_11; clear HO316; clear HB; have HO_11 := n0_; have HO316 := n1_; have HO319 := n2_; have HB := n3_; clear n0_ n1_ n2_ n3_; (try clear hb); (try clear hb2); (try clear hk); (try clear hi); (try clear ho0); obtain ⟨Ao86, co86, eo86⟩ := Kd.R_slice HO319.out; subst eo86) | ((with_reducible refine gate_callee (f := 49) rfl ?_); refine goesL_ (some 97) rfl rfl Try.func49 (by kernel_rfl) rfl #[.slice Ao86 t317.length co86, .bool true] rfl (by (try simp only [List.map_toArray, List.map_cons, List.map_nil]); first | done | rfl | (simp only [List.length_drop, List.length_take]; rfl)) ?_; (with_reducible refine (soukref01_value.calls kj75 (fun k_ => some k_ = (.slice Ao86 t317.length co86 : Value).ownBlock) (.slice Ao86 t317.length co86) t317 true t320 t321 w _ ?side1 ?side2 A80.out).mono ?_); (case side1 => repeat (first | (with_reducible first | exact HB.out | apply below_alloc | apply pw_below_drewN | apply below_drew1) | exact HB.out)); (case side2 => exact Kd.R_tight rfl HO319.out); rintro e w87 ⟨rfl, hb, hkp⟩; refine ⟨_, rfl, ?_⟩; have n0_ := Aside0.mk (Kd.R_mono (ok' := fun k_ => some k_ ≠ (.slice Ao84 y314.length co84 : Value).ownBlock) (Kd.R_keptB (HO_11.out) hkp (fun k_ hk_ hs_ => (hk_.2) hs_)) (fun k_ hk_ => hk_.1.1.2)); have n1_ := Aside0.mk (Kd.R_mono (ok' := fun k_ => some k_ ≠ (.slice Ao83 t283.length co83 : Value).ownBlock) (Kd.R_keptB (HO316.out) hkp (fun k_ hk_ hs_ => (hk_.2) hs_)) (fun k_ hk_ => hk_.1.1.2)); have n2_ := Aside0.mk (hb); clear HO_11; clear HO316; clear HB; clear HO319; have HO_11 := n0_; have HO316 := n1_; have HB := n2_; clear n0_ n1_ n2_; (try clear hb); (try clear hkp)))
          go_ret2
          exact ⟨by first | rfl | (simp [errW_none, errW_some] <;> rfl) | (simp [*, errW_none, errW_some] <;> rfl), by repeat (first | (with_reducible first | exact HB.out | apply below_alloc | apply pw_below_drewN | apply below_drew1) | exact HB.out)⟩
         ·replace c78 := Bool.eq_false_iff.mpr c78
          subst c78
          have H1 : ((soukref01_value.f kj75 t283 true).bind fun bt322 => (some (bt322.1, bt322.2))) = some (r1, r2) := by rw [if_neg (show ¬ (false = true) by decide)] at H; exact H
          clear H
          have H := H1
          clear H1
          replace H := Option.bind_eq_some_iff.mp H
          obtain ⟨⟨t322, t323⟩, A880, H⟩ := H
          replace H : (some (t322, t323)) = some (r1, r2) := H
          have A88 := Aside0.mk A880
          clear A880
          simp only [Option.some.injEq, Prod.mk.injEq] at H
          obtain ⟨rfl, rfl⟩ := H
          obtain ⟨Ao89, co89, eo89⟩ := Kd.R_slice HO_11.out
          subst eo89
          go_wp2_with (first | ((with_reducible refine gate_callee (f := 49) rfl ?_); refine goesL_ (some 97) rfl rfl Try.func49 (by kernel_rfl) rfl #[.slice Ao89 t283.length co89, .bool true] rfl (by (try simp only [List.map_toArray, List.map_cons, List.map_nil]); first | done | rfl | (simp only [List.length_drop, List.length_take]; rfl)) ?_; (with_reducible refine (soukref01_value.calls kj75 (fun k_ => some k_ = (.slice Ao89 t283.length co89 : Value).ownBlock) (.slice Ao89 t283.length co89) t283 true t322 t323 w _ ?side1 ?side2 A88.out).mono ?_); (case side1 => repeat (first | (with_reducible first | exact HB.out | apply below_alloc | apply pw_below_drewN | apply below_drew1) | exact HB.out)); (case side2 => exact Kd.R_tight rfl HO_11.out); rintro e w90 ⟨rfl, hb, hkp⟩; refine ⟨_, rfl, ?_⟩; have n0_ := Aside0.mk (hb); clear HB; clear HO_11; have HB := n0_; clear n0_; (try clear hb); (try clear hkp)))
          go_ret2
          exact ⟨by first | rfl | (simp [errW_none, errW_some] <;> rfl) | (simp [*, errW_none, errW_some] <;> rfl), by repeat (first | (with_reducible first | exact HB.out | apply below_alloc | apply pw_below_drewN | apply below_drew1) | exact HB.out)⟩
 ·rw [if_neg c5] at H
  have c5b0 : ((decide (a0 < 0)) != (decide (a1 < 0))) = false := by simpa using c5
  (try (have c5b1 : decide ((decide (a0 < 0)) = (decide (a1 < 0))) = true := by simpa using c5))
  (try (have c5b2 : ((decide (a0 < 0)) == (decide (a1 < 0))) = true := by simpa using c5))
  clear c5
  replace H := Option.bind_eq_some_iff.mp H
  obtain ⟨t324, A910, H⟩ := H
  replace H : ((soukref01_bits.f k a1).bind fun t327 => ((soukref01_Times.f k t324 t327).bind fun t330 => ((soukref01_bits.f k a2).bind fun t333 => ((soukref01_Div.f k t330 t333).bind fun bt336 => ((soukref01_Plus.f k bt336.2 bt336.2).bind fun t342 => ((soukref01_trim.f k bt336.2).bind fun t345 => (if (t345.length : Int) = 0 then ((soukref01_bits.f k a2).bind fun t348 => ((soukref01_less.f k t342 t348).bind fun t351 => ((soukref01_bits.f k a2).bind fun t352 => ((soukref01_less.f k t352 t342).bind fun t355 => ((soukref01_value.f k bt336.1 false).bind fun bt356 => (some (bt356.1, bt356.2))))))) else ((soukref01_bits.f k a2).bind fun t358 => ((soukref01_less.f k t342 t358).bind fun t361 => ((soukref01_bits.f k a2).bind fun t362 => ((soukref01_less.f k t362 t342).bind fun t365 => (if a3 = 0 then (if a3 = 1 then (soukref01_MulDiv.j3 k a3 false bt336.1 false t361 t365 true) else (if a3 = 2 then (soukref01_MulDiv.j3 k a3 false bt336.1 false t361 t365 t365) else (soukref01_MulDiv.j3 k a3 false bt336.1 false t361 t365 false))) else (if a3 = 1 then (soukref01_MulDiv.j3 k a3 false bt336.1 false t361 t365 true) else (if a3 = 2 then (soukref01_MulDiv.j3 k a3 false bt336.1 false t361 t365 t365) else (soukref01_MulDiv.j3 k a3 false bt336.1 false t361 t365 false))))))))))))))) = some (r1, r2) := H
  have A91 := Aside0.mk A910
  clear A910
  replace H := Option.bind_eq_some_iff.mp H
  obtain ⟨t327, A920, H⟩ := H
  replace H : ((soukref01_Times.f k t324 t327).bind fun t330 => ((soukref01_bits.f k a2).bind fun t333 => ((soukref01_Div.f k t330 t333).bind fun bt336 => ((soukref01_Plus.f k bt336.2 bt336.2).bind fun t342 => ((soukref01_trim.f k bt336.2).bind fun t345 => (if (t345.length : Int) = 0 then ((soukref01_bits.f k a2).bind fun t348 => ((soukref01_less.f k t342 t348).bind fun t351 => ((soukref01_bits.f k a2).bind fun t352 => ((soukref01_less.f k t352 t342).bind fun t355 => ((soukref01_value.f k bt336.1 false).bind fun bt356 => (some (bt356.1, bt356.2))))))) else ((soukref01_bits.f k a2).bind fun t358 => ((soukref01_less.f k t342 t358).bind fun t361 => ((soukref01_bits.f k a2).bind fun t362 => ((soukref01_less.f k t362 t342).bind fun t365 => (if a3 = 0 then (if a3 = 1 then (soukref01_MulDiv.j3 k a3 false bt336.1 false t361 t365 true) else (if a3 = 2 then (soukref01_MulDiv.j3 k a3 false bt336.1 false t361 t365 t365) else (soukref01_MulDiv.j3 k a3 false bt336.1 false t361 t365 false))) else (if a3 = 1 then (soukref01_MulDiv.j3 k a3 false bt336.1 false t361 t365 true) else (if a3 = 2 then (soukref01_MulDiv.j3 k a3 false bt336.1 false t361 t365 t365) else (soukref01_MulDiv.j3 k a3 false bt336.1 false t361 t365 false)))))))))))))) = some (r1, r2) := H
  have A92 := Aside0.mk A920
  clear A920
  replace H := Option.bind_eq_some_iff.mp H
  obtain ⟨t330, A930, H⟩ := H
  replace H : ((soukref01_bits.f k a2).bind fun t333 => ((soukref01_Div.f k t330 t333).bind fun bt336 => ((soukref01_Plus.f k bt336.2 bt336.2).bind fun t342 => ((soukref01_trim.f k bt336.2).bind fun t345 => (if (t345.length : Int) = 0 then ((soukref01_bits.f k a2).bind fun t348 => ((soukref01_less.f k t342 t348).bind fun t351 => ((soukref01_bits.f k a2).bind fun t352 => ((soukref01_less.f k t352 t342).bind fun t355 => ((soukref01_value.f k bt336.1 false).bind fun bt356 => (some (bt356.1, bt356.2))))))) else ((soukref01_bits.f k a2).bind fun t358 => ((soukref01_less.f k t342 t358).bind fun t361 => ((soukref01_bits.f k a2).bind fun t362 => ((soukref01_less.f k t362 t342).bind fun t365 => (if a3 = 0 then (if a3 = 1 then (soukref01_MulDiv.j3 k a3 false bt336.1 false t361 t365 true) else (if a3 = 2 then (soukref01_MulDiv.j3 k a3 false bt336.1 false t361 t365 t365) else (soukref01_MulDiv.j3 k a3 false bt336.1 false t361 t365 false))) else (if a3 = 1 then (soukref01_MulDiv.j3 k a3 false bt336.1 false t361 t365 true) else (if a3 = 2 then (soukref01_MulDiv.j3 k a3 false bt336.1 false t361 t365 t365) else (soukref01_MulDiv.j3 k a3 false bt336.1 false t361 t365 false))))))))))))) = some (r1, r2) := H
  have A93 := Aside0.mk A930
  clear A930
  replace H := Option.bind_eq_some_iff.mp H
  obtain ⟨t333, A940, H⟩ := H
  replace H : ((soukref01_Div.f k t330 t333).bind fun bt336 => ((soukref01_Plus.f k bt336.2 bt336.2).bind fun t342 => ((soukref01_trim.f k bt336.2).bind fun t345 => (if (t345.length : Int) = 0 then ((soukref01_bits.f k a2).bind fun t348 => ((soukref01_less.f k t342 t348).bind fun t351 => ((soukref01_bits.f k a2).bind fun t352 => ((soukref01_less.f k t352 t342).bind fun t355 => ((soukref01_value.f k bt336.1 false).bind fun bt356 => (some (bt356.1, bt356.2))))))) else ((soukref01_bits.f k a2).bind fun t358 => ((soukref01_less.f k t342 t358).bind fun t361 => ((soukref01_bits.f k a2).bind fun t362 => ((soukref01_less.f k t362 t342).bind fun t365 => (if a3 = 0 then (if a3 = 1 then (soukref01_MulDiv.j3 k a3 false bt336.1 false t361 t365 true) else (if a3 = 2 then (soukref01_MulDiv.j3 k a3 false bt336.1 false t361 t365 t365) else (soukref01_MulDiv.j3 k a3 false bt336.1 false t361 t365 false))) else (if a3 = 1 then (soukref01_MulDiv.j3 k a3 false bt336.1 false t361 t365 true) else (if a3 = 2 then (soukref01_MulDiv.j3 k a3 false bt336.1 false t361 t365 t365) else (soukref01_MulDiv.j3 k a3 false bt336.1 false t361 t365 false)))))))))))) = some (r1, r2) := H
  have A94 := Aside0.mk A940
  clear A940
  replace H := Option.bind_eq_some_iff.mp H
  obtain ⟨⟨t336, t337⟩, A950, H⟩ := H
  replace H : ((soukref01_Plus.f k t337 t337).bind fun t342 => ((soukref01_trim.f k t337).bind fun t345 => (if (t345.length : Int) = 0 then ((soukref01_bits.f k a2).bind fun t348 => ((soukref01_less.f k t342 t348).bind fun t351 => ((soukref01_bits.f k a2).bind fun t352 => ((soukref01_less.f k t352 t342).bind fun t355 => ((soukref01_value.f k t336 false).bind fun bt356 => (some (bt356.1, bt356.2))))))) else ((soukref01_bits.f k a2).bind fun t358 => ((soukref01_less.f k t342 t358).bind fun t361 => ((soukref01_bits.f k a2).bind fun t362 => ((soukref01_less.f k t362 t342).bind fun t365 => (if a3 = 0 then (if a3 = 1 then (soukref01_MulDiv.j3 k a3 false t336 false t361 t365 true) else (if a3 = 2 then (soukref01_MulDiv.j3 k a3 false t336 false t361 t365 t365) else (soukref01_MulDiv.j3 k a3 false t336 false t361 t365 false))) else (if a3 = 1 then (soukref01_MulDiv.j3 k a3 false t336 false t361 t365 true) else (if a3 = 2 then (soukref01_MulDiv.j3 k a3 false t336 false t361 t365 t365) else (soukref01_MulDiv.j3 k a3 false t336 false t361 t365 false))))))))))) = some (r1, r2) := H
  have A95 := Aside0.mk A950
  clear A950
  replace H := Option.bind_eq_some_iff.mp H
  obtain ⟨t342, A960, H⟩ := H
  replace H : ((soukref01_trim.f k t337).bind fun t345 => (if (t345.length : Int) = 0 then ((soukref01_bits.f k a2).bind fun t348 => ((soukref01_less.f k t342 t348).bind fun t351 => ((soukref01_bits.f k a2).bind fun t352 => ((soukref01_less.f k t352 t342).bind fun t355 => ((soukref01_value.f k t336 false).bind fun bt356 => (some (bt356.1, bt356.2))))))) else ((soukref01_bits.f k a2).bind fun t358 => ((soukref01_less.f k t342 t358).bind fun t361 => ((soukref01_bits.f k a2).bind fun t362 => ((soukref01_less.f k t362 t342).bind fun t365 => (if a3 = 0 then (if a3 = 1 then (soukref01_MulDiv.j3 k a3 false t336 false t361 t365 true) else (if a3 = 2 then (soukref01_MulDiv.j3 k a3 false t336 false t361 t365 t365) else (soukref01_MulDiv.j3 k a3 false t336 false t361 t365 false))) else (if a3 = 1 then (soukref01_MulDiv.j3 k a3 false t336 false t361 t365 true) else (if a3 = 2 then (soukref01_MulDiv.j3 k a3 false t336 false t361 t365 t365) else (soukref01_MulDiv.j3 k a3 false t336 false t361 t365 false)))))))))) = some (r1, r2) := H
  have A96 := Aside0.mk A960
  clear A960
  replace H := Option.bind_eq_some_iff.mp H
  obtain ⟨t345, A970, H⟩ := H
  replace H : (if (t345.length : Int) = 0 then ((soukref01_bits.f k a2).bind fun t348 => ((soukref01_less.f k t342 t348).bind fun t351 => ((soukref01_bits.f k a2).bind fun t352 => ((soukref01_less.f k t352 t342).bind fun t355 => ((soukref01_value.f k t336 false).bind fun bt356 => (some (bt356.1, bt356.2))))))) else ((soukref01_bits.f k a2).bind fun t358 => ((soukref01_less.f k t342 t358).bind fun t361 => ((soukref01_bits.f k a2).bind fun t362 => ((soukref01_less.f k t362 t342).bind fun t365 => (if a3 = 0 then (if a3 = 1 then (soukref01_MulDiv.j3 k a3 false t336 false t361 t365 true) else (if a3 = 2 then (soukref01_MulDiv.j3 k a3 false t336 false t361 t365 t365) else (soukref01_MulDiv.j3 k a3 false t336 false t361 t365 false))) else (if a3 = 1 then (soukref01_MulDiv.j3 k a3 false t336 false t361 t365 true) else (if a3 = 2 then (soukref01_MulDiv.j3 k a3 false t336 false t361 t365 t365) else (soukref01_MulDiv.j3 k a3 false t336 false t361 t365 false))))))))) = some (r1, r2) := H
  have A97 := Aside0.mk A970
  clear A970
  by_cases c98 : (t345.length : Int) = 0
  ·rw [if_pos c98] at H
   have c98b0 : ((t345.length : Int) == 0) = true := beq_iff_eq.mpr c98
   have c98b1 : ((t345.length : Int) != 0) = false := bne_eq_false_iff_eq.mpr c98
   clear c98
   replace H := Option.bind_eq_some_iff.mp H
   obtain ⟨t348, A990, H⟩ := H
   replace H : ((soukref01_less.f k t342 t348).bind fun t351 => ((soukref01_bits.f k a2).bind fun t352 => ((soukref01_less.f k t352 t342).bind fun t355 => ((soukref01_value.f k t336 false).bind fun bt356 => (some (bt356.1, bt356.2)))))) = some (r1, r2) := H
   have A99 := Aside0.mk A990
   clear A990
   replace H := Option.bind_eq_some_iff.mp H
   obtain ⟨t351, A1000, H⟩ := H
   replace H : ((soukref01_bits.f k a2).bind fun t352 => ((soukref01_less.f k t352 t342).bind fun t355 => ((soukref01_value.f k t336 false).bind fun bt356 => (some (bt356.1, bt356.2))))) = some (r1, r2) := H
   have A100 := Aside0.mk A1000
   clear A1000
   replace H := Option.bind_eq_some_iff.mp H
   obtain ⟨t352, A1010, H⟩ := H
   replace H : ((soukref01_less.f k t352 t342).bind fun t355 => ((soukref01_value.f k t336 false).bind fun bt356 => (some (bt356.1, bt356.2)))) = some (r1, r2) := H
   have A101 := Aside0.mk A1010
   clear A1010
   replace H := Option.bind_eq_some_iff.mp H
   obtain ⟨t355, A1020, H⟩ := H
   replace H : ((soukref01_value.f k t336 false).bind fun bt356 => (some (bt356.1, bt356.2))) = some (r1, r2) := H
   have A102 := Aside0.mk A1020
   clear A1020
   replace H := Option.bind_eq_some_iff.mp H
   obtain ⟨⟨t356, t357⟩, A1030, H⟩ := H
   replace H : (some (t356, t357)) = some (r1, r2) := H
   have A103 := Aside0.mk A1030
   clear A1030
   simp only [Option.some.injEq, Prod.mk.injEq] at H
   obtain ⟨rfl, rfl⟩ := H
   go_enter Try.func19, Try.ntmps19
   go_wp2_with (first | ((with_reducible refine gate_callee (f := 44) rfl ?_); refine goesL_ (some 25) rfl rfl Try.func44 (by kernel_rfl) rfl #[.int .i64 a0] rfl (by (try simp only [List.map_toArray, List.map_cons, List.map_nil]); first | done | rfl | (simp only [List.length_drop, List.length_take]; rfl)) ?_; (with_reducible refine (soukref01_bits.calls k a0 t324 _ A91.out).mono ?_); rintro e w104 ⟨v325, rfl, ho0, hb⟩; refine ⟨_, rfl, ?_⟩; have n0_ := Aside0.mk (Kd.R_lower ho0 (below_size (by repeat (first | (with_reducible first | exact HB.out | apply below_alloc | apply pw_below_drewN | apply below_drew1) | exact HB.out)))); have n1_ := Aside0.mk (below_step (by repeat (first | (with_reducible first | exact HB.out | apply below_alloc | apply pw_below_drewN | apply below_drew1) | exact HB.out)) hb); clear HB; have HO326 := n0_; have HB := n1_; clear n0_ n1_; (try clear hb); (try clear hb2); (try clear hk); (try clear hi); (try clear ho0)) | ((with_reducible refine gate_callee (f := 44) rfl ?_); refine goesL_ (some 27) rfl rfl Try.func44 (by kernel_rfl) rfl #[.int .i64 a1] rfl (by (try simp only [List.map_toArray, List.map_cons, List.map_nil]); first | done | rfl | (simp only [List.length_drop, List.length_take]; rfl)) ?_; (with_reducible refine (soukref01_bits.calls k a1 t327 _ A92.out).mono ?_); rintro e w105 ⟨v328, rfl, ho0, hb⟩; refine ⟨_, rfl, ?_⟩; have n0_ := Aside0.mk (Kd.R_elder' (by (with_reducible repeat (first | apply Kd.R_alloc | apply Kd.R_drewN | apply Kd.R_drew)); exact HO326.out) (Kd.R_base ho0) hb); have n1_ := Aside0.mk (Kd.R_lower (Kd.R_new' ho0 (Kd.R_lt (by (with_reducible repeat (first | apply Kd.R_alloc | apply Kd.R_drewN | apply Kd.R_drew)); exact HO326.out))) (below_size (by repeat (first | (with_reducible first | exact HB.out | apply below_alloc | apply pw_below_drewN | apply below_drew1) | exact HB.out)))); have n2_ := Aside0.mk (below_step (by repeat (first | (with_reducible first | exact HB.out | apply below_alloc | apply pw_below_drewN | apply below_drew1) | exact HB.out)) hb); clear HO326; clear HB; have HO326 := n0_; have HO329 := n1_; have HB := n2_; clear n0_ n1_ n2_; (try clear hb); (try clear hb2); (try clear hk); (try clear hi); (try clear ho0); obtain ⟨Ao106, co106, eo106⟩ := Kd.R_slice HO326.out; subst eo106; obtain ⟨Ao107, co107, eo107⟩ := Kd.R_slice HO329.out; subst eo107) | ((with_reducible refine gate_callee (f := 43) rfl ?_); refine goesL_ (some 28) rfl rfl Try.func43 (by kernel_rfl) rfl #[.slice Ao106 t324.length co106, .slice Ao107 t327.length co107] rfl (by (try simp only [List.map_toArray, List.map_cons, List.map_nil]); first | done | rfl | (simp only [List.length_drop, List.length_take]; rfl)) ?_; (with_reducible refine (soukref01_Times.calls k _ _ t324 _ _ t327 t330 _ ?side1 ?side2 ?side3 ?side4 A93.out).mono ?_); (case side1 => repeat (first | exact (Kd.R_reads' HO326.out).2.2 | (with_reducible refine Kd.C_alloc ?_ _) | (with_reducible refine Kd.C_drewN ?_ _) | (with_reducible refine Kd.C_drew ?_))); (case side2 => exact (Kd.R_reads' HO326.out).2.1); (case side3 => repeat (first | exact (Kd.R_reads' HO329.out).2.2 | (with_reducible refine Kd.C_alloc ?_ _) | (with_reducible refine Kd.C_drewN ?_ _) | (with_reducible refine Kd.C_drew ?_))); (case side4 => exact (Kd.R_reads' HO329.out).2.1); rintro e w108 ⟨v331, rfl, ho0, hb⟩; refine ⟨_, rfl, ?_⟩; have n0_ := Aside0.mk (Kd.R_elder' (by (with_reducible repeat (first | apply Kd.R_alloc | apply Kd.R_drewN | apply Kd.R_drew)); exact HO326.out) (Kd.R_base ho0) hb); have n1_ := Aside0.mk (Kd.R_elder' (by (with_reducible repeat (first | apply Kd.R_alloc | apply Kd.R_drewN | apply Kd.R_drew)); exact HO329.out) (Kd.R_base ho0) hb); have n2_ := Aside0.mk (Kd.R_lower (Kd.R_new' (Kd.R_new' ho0 (Kd.R_lt (by (with_reducible repeat (first | apply Kd.R_alloc | apply Kd.R_drewN | apply Kd.R_drew)); exact HO326.out))) (Kd.R_lt (by (with_reducible repeat (first | apply Kd.R_alloc | apply Kd.R_drewN | apply Kd.R_drew)); exact HO329.out))) (below_size (by repeat (first | (with_reducible first | exact HB.out | apply below_alloc | apply pw_below_drewN | apply below_drew1) | exact HB.out)))); have n3_ := Aside0.mk (below_step (by repeat (first | (with_reducible first | exact HB.out | apply below_alloc | apply pw_below_drewN | apply below_drew1) | exact HB.out)) hb); clear HO326; clear HO329; clear HB; have HO326 := n0_; have HO329 := n1_; have HO332 := n2_; have HB := n3_; clear n0_ n1_ n2_ n3_; (try clear hb); (try clear hb2); (try clear hk); (try clear hi); (try clear ho0)) | ((with_reducible refine gate_callee (f := 44) rfl ?_); refine goesL_ (some 30) rfl rfl Try.func44 (by kernel_rfl) rfl #[.int .i64 a2] rfl (by (try simp only [List.map_toArray, List.map_cons, List.map_nil]); first | done | rfl | (simp only [List.length_drop, List.length_take]; rfl)) ?_; (with_reducible refine (soukref01_bits.calls k a2 t333 _ A94.out).mono ?_); rintro e w109 ⟨v334, rfl, ho0, hb⟩; refine ⟨_, rfl, ?_⟩; have n0_ := Aside0.mk (Kd.R_elder' (by (with_reducible repeat (first | apply Kd.R_alloc | apply Kd.R_drewN | apply Kd.R_drew)); exact HO326.out) (Kd.R_base ho0) hb); have n1_ := Aside0.mk (Kd.R_elder' (by (with_reducible repeat (first | apply Kd.R_alloc | apply Kd.R_drewN | apply Kd.R_drew)); exact HO329.out) (Kd.R_base ho0) hb); have n2_ := Aside0.mk (Kd.R_elder' (by (with_reducible repeat (first | apply Kd.R_alloc | apply Kd.R_drewN | apply Kd.R_drew)); exact HO332.out) (Kd.R_base ho0) hb); have n3_ := Aside0.mk (Kd.R_lower (Kd.R_new' (Kd.R_new' (Kd.R_new' ho0 (Kd.R_lt (by (with_reducible repeat (first | apply Kd.R_alloc | apply Kd.R_drewN | apply Kd.R_drew)); exact HO326.out))) (Kd.R_lt (by (with_reducible repeat (first | apply Kd.R_alloc | apply Kd.R_drewN | apply Kd.R_drew)); exact HO329.out))) (Kd.R_lt (by (with_reducible repeat (first | apply Kd.R_alloc | apply Kd.R_drewN | apply Kd.R_drew)); exact HO332.out))) (below_size (by repeat (first | (with_reducible first | exact HB.out | apply below_alloc | apply pw_below_drewN | apply below_drew1) | exact HB.out)))); have n4_ := Aside0.mk (below_step (by repeat (first | (with_reducible first | exact HB.out | apply below_alloc | apply pw_below_drewN | apply below_drew1) | exact HB.out)) hb); clear HO326; clear HO329; clear HO332; clear HB; have HO326 := n0_; have HO329 := n1_; have HO332 := n2_; have HO335 := n3_; have HB := n4_; clear n0_ n1_ n2_ n3_ n4_; (try clear hb); (try clear hb2); (try clear hk); (try clear hi); (try clear ho0); obtain ⟨Ao110, co110, eo110⟩ := Kd.R_slice HO332.out; subst eo110; obtain ⟨Ao111, co111, eo111⟩ := Kd.R_slice HO335.out; subst eo111) | ((with_reducible refine gate_callee (f := 42) rfl ?_); refine goesL_ (some 31) rfl rfl Try.func42 (by kernel_rfl) rfl #[.slice Ao110 t330.length co110, .slice Ao111 t333.length co111] rfl (by (try simp only [List.map_toArray, List.map_cons, List.map_nil]); first | done | rfl | (simp only [List.length_drop, List.length_take]; rfl)) ?_; (with_reducible refine (soukref01_Div.calls k _ _ t330 _ _ t333 t336 t337 _ ?side1 ?side2 ?side3 ?side4 A95.out).mono ?_); (case side1 => repeat (first | exact (Kd.R_reads' HO332.out).2.2 | (with_reducible refine Kd.C_alloc ?_ _) | (with_reducible refine Kd.C_drewN ?_ _) | (with_reducible refine Kd.C_drew ?_))); (case side2 => exact (Kd.R_reads' HO332.out).2.1); (case side3 => repeat (first | exact (Kd.R_reads' HO335.out).2.2 | (with_reducible refine Kd.C_alloc ?_ _) | (with_reducible refine Kd.C_drewN ?_ _) | (with_reducible refine Kd.C_drew ?_))); (case side4 => exact (Kd.R_reads' HO335.out).2.1); rintro e w112 ⟨v338, v340, rfl, ho0, ho1, hb⟩; refine ⟨_, rfl, ?_⟩; have n0_ := Aside0.mk (Kd.R_mono (Kd.R_told (Kd.R_told (Kd.R_old (by (with_reducible repeat (first | apply Kd.R_alloc | apply Kd.R_drewN | apply Kd.R_drew)); exact HO326.out) hb) (Kd.R_base ho0)) (Kd.R_base ho1)) (fun _ h_ => h_.1)); have n1_ := Aside0.mk (Kd.R_mono (Kd.R_told (Kd.R_told (Kd.R_old (by (with_reducible repeat (first | apply Kd.R_alloc | apply Kd.R_drewN | apply Kd.R_drew)); exact HO329.out) hb) (Kd.R_base ho0)) (Kd.R_base ho1)) (fun _ h_ => h_.1)); have n2_ := Aside0.mk (Kd.R_mono (Kd.R_told (Kd.R_told (Kd.R_old (by (with_reducible repeat (first | apply Kd.R_alloc | apply Kd.R_drewN | apply Kd.R_drew)); exact HO332.out) hb) (Kd.R_base ho0)) (Kd.R_base ho1)) (fun _ h_ => h_.1)); have n3_ := Aside0.mk (Kd.R_mono (Kd.R_told (Kd.R_told (Kd.R_old (by (with_reducible repeat (first | apply Kd.R_alloc | apply Kd.R_drewN | apply Kd.R_drew)); exact HO335.out) hb) (Kd.R_base ho0)) (Kd.R_base ho1)) (fun _ h_ => h_.1)); have n4_ := Aside0.mk (Kd.R_lower (Kd.R_new' (Kd.R_new' (Kd.R_new' (Kd.R_new' ho0 (Kd.R_lt (by (with_reducible repeat (first | apply Kd.R_alloc | apply Kd.R_drewN | apply Kd.R_drew)); exact HO326.out))) (Kd.R_lt (by (with_reducible repeat (first | apply Kd.R_alloc | apply Kd.R_drewN | apply Kd.R_drew)); exact HO329.out))) (Kd.R_lt (by (with_reducible repeat (first | apply Kd.R_alloc | apply Kd.R_drewN | apply Kd.R_drew)); exact HO332.out))) (Kd.R_lt (by (with_reducible repeat (first | apply Kd.R_alloc | apply Kd.R_drewN | apply Kd.R_drew)); exact HO335.out))) (below_size (by repeat (first | (with_reducible first | exact HB.out | apply below_alloc | apply pw_below_drewN | apply below_drew1) | exact HB.out)))); have n5_ := Aside0.mk (Kd.R_lower (Kd.R_new' (Kd.R_new' (Kd.R_new' (Kd.R_new' ho1 (Kd.R_lt (by (with_reducible repeat (first | apply Kd.R_alloc | apply Kd.R_drewN | apply Kd.R_drew)); exact HO326.out))) (Kd.R_lt (by (with_reducible repeat (first | apply Kd.R_alloc | apply Kd.R_drewN | apply Kd.R_drew)); exact HO329.out))) (Kd.R_lt (by (with_reducible repeat (first | apply Kd.R_alloc | apply Kd.R_drewN | apply Kd.R_drew)); exact HO332.out))) (Kd.R_lt (by (with_reducible repeat (first | apply Kd.R_alloc | apply Kd.R_drewN | apply Kd.R_drew)); exact HO335.out))) (below_size (by repeat (first | (with_reducible first | exact HB.out | apply below_alloc | apply pw_below_drewN | apply below_drew1) | exact HB.out)))); have n6_ := Aside0.mk (below_step (by repeat (first | (with_reducible first | exact HB.out | apply below_alloc | apply pw_below_drewN | apply below_drew1) | exact HB.out)) hb); clear HO326; clear HO329; clear HO332; clear HO335; clear HB; have HO326 := n0_; have HO329 := n1_; have HO332 := n2_; have HO335 := n3_; have HO339 := n4_; have HO341 := n5_; have HB := n6_; clear n0_ n1_ n2_ n3_ n4_ n5_ n6_; (try clear hb); (try clear hb2); (try clear hk); (try clear hi); (try clear ho0); (try clear ho1); obtain ⟨Ao113, co113, eo113⟩ := Kd.R_slice HO341.out; subst eo113) | ((with_reducible refine gate_callee (f := 45) rfl ?_); refine goesL_ (some 36) rfl rfl Try.func45 (by kernel_rfl) rfl #[.slice Ao113 t337.length co113, .slice Ao113 t337.length co113] rfl (by (try simp only [List.map_toArray, List.map_cons, List.map_nil]); first | done | rfl | (simp only [List.length_drop, List.length_take]; rfl)) ?_; (with_reducible refine (soukref01_Plus.calls k _ _ t337 _ _ t337 t342 _ ?side1 ?side2 ?side3 ?side4 A96.out).mono ?_); (case side1 => repeat (first | exact (Kd.R_reads' HO341.out).2.2 | (with_reducible refine Kd.C_alloc ?_ _) | (with_reducible refine Kd.C_drewN ?_ _) | (with_reducible refine Kd.C_drew ?_))); (case side2 => exact (Kd.R_reads' HO341.out).2.1); (case side3 => repeat (first | exact (Kd.R_reads' HO341.out).2.2 | (with_reducible refine Kd.C_alloc ?_ _) | (with_reducible refine Kd.C_drewN ?_ _) | (with_reducible refine Kd.C_drew ?_))); (case side4 => exact (Kd.R_reads' HO341.out).2.1); rintro e w114 ⟨v343, rfl, ho0, hb⟩; refine ⟨_, rfl, ?_⟩; have n0_ := Aside0.mk (Kd.R_elder' (by (with_reducible repeat (first | apply Kd.R_alloc | apply Kd.R_drewN | apply Kd.R_drew)); exact HO326.out) (Kd.R_base ho0) hb); have n1_ := Aside0.mk (Kd.R_elder' (by (with_reducible repeat (first | apply Kd.R_alloc | apply Kd.R_drewN | apply Kd.R_drew)); exact HO329.out) (Kd.R_base ho0) hb); have n2_ := Aside0.mk (Kd.R_elder' (by (with_reducible repeat (first | apply Kd.R_alloc | apply Kd.R_drewN | apply Kd.R_drew)); exact HO332.out) (Kd.R_base ho0) hb); have n3_ := Aside0.mk (Kd.R_elder' (by (with_reducible repeat (first | apply Kd.R_alloc | apply Kd.R_drewN | apply Kd.R_drew)); exact HO335.out) (Kd.R_base ho0) hb); have n4_ := Aside0.mk (Kd.R_elder' (by (with_reducible repeat (first | apply Kd.R_alloc | apply Kd.R_drewN | apply Kd.R_drew)); exact HO339.out) (Kd.R_base ho0) hb); have n5_ := Aside0.mk (Kd.R_elder' (by (with_reducible repeat (first | apply Kd.R_alloc | apply Kd.R_drewN | apply Kd.R_drew)); exact HO341.out) (Kd.R_base ho0) hb); have n6_ := Aside0.mk (Kd.R_lower (Kd.R_new' (Kd.R_new' (Kd.R_new' (Kd.R_new' (Kd.R_new' (Kd.R_new' ho0 (Kd.R_lt (by (with_reducible repeat (first | apply Kd.R_alloc | apply Kd.R_drewN | apply Kd.R_drew)); exact HO326.out))) (Kd.R_lt (by (with_reducible repeat (first | apply Kd.R_alloc | apply Kd.R_drewN | apply Kd.R_drew)); exact HO329.out))) (Kd.R_lt (by (with_reducible repeat (first | apply Kd.R_alloc | apply Kd.R_drewN | apply Kd.R_drew)); exact HO332.out))) (Kd.R_lt (by (with_reducible repeat (first | apply Kd.R_alloc | apply Kd.R_drewN | apply Kd.R_drew)); exact HO335.out))) (Kd.R_lt (by (with_reducible repeat (first | apply Kd.R_alloc | apply Kd.R_drewN | apply Kd.R_drew)); exact HO339.out))) (Kd.R_lt (by (with_reducible repeat (first | apply Kd.R_alloc | apply Kd.R_drewN | apply Kd.R_drew)); exact HO341.out))) (below_size (by repeat (first | (with_reducible first | exact HB.out | apply below_alloc | apply pw_below_drewN | apply below_drew1) | exact HB.out)))); have n7_ := Aside0.mk (below_step (by repeat (first | (with_reducible first | exact HB.out | apply below_alloc | apply pw_below_drewN | apply below_drew1) | exact HB.out)) hb); clear HO326; clear HO329; clear HO332; clear HO335; clear HO339; clear HO341; clear HB; have HO326 := n0_; have HO329 := n1_; have HO332 := n2_; have HO335 := n3_; have HO339 := n4_; have HO341 := n5_; have HO344 := n6_; have HB := n7_; clear n0_ n1_ n2_ n3_ n4_ n5_ n6_ n7_; (try clear hb); (try clear hb2); (try clear hk); (try clear hi); (try clear ho0)) | ((with_reducible refine gate_callee (f := 46) rfl ?_); refine goesL_ (some 38) rfl rfl Try.func46 (by kernel_rfl) rfl #[.slice Ao113 t337.length co113] rfl (by (try simp only [List.map_toArray, List.map_cons, List.map_nil]); first | done | rfl | (simp only [List.length_drop, List.length_take]; rfl)) ?_; (with_reducible refine (soukref01_trim.calls k (fun k_ => some k_ = (.slice Ao113 t337.length co113 : Value).ownBlock) (.slice Ao113 t337.length co113) t337 t345 w _ ?side1 ?side2 A97.out).mono ?_); (case side1 => repeat (first | (with_reducible first | exact HB.out | apply below_alloc | apply pw_below_drewN | apply below_drew1) | exact HB.out)); (case side2 => exact Kd.R_tight rfl HO341.out); rintro e w115 ⟨v346, rfl, ho0, hb, hkp⟩; refine ⟨_, rfl, ?_⟩; have n0_ := Aside0.mk (Kd.R_mono (ok' := fun k_ => some k_ ≠ (.slice Ao107 t327.length co107 : Value).ownBlock ∧ some k_ ≠ (.slice Ao110 t330.length co110 : Value).ownBlock ∧ some k_ ≠ (.slice Ao111 t333.length co111 : Value).ownBlock ∧ some k_ ≠ (v338 : Value).ownBlock ∧ some k_ ≠ (v343 : Value).ownBlock ∧ some k_ ≠ (v346 : Value).ownBlock) (Kd.R_keptB (HO326.out) hkp (fun k_ hk_ hs_ => (hk_.1.2) hs_)) (fun k_ hk_ => ⟨hk_.1.1.1.1.1.1.2, hk_.1.1.1.1.1.2, hk_.1.1.1.1.2, hk_.1.1.1.2, hk_.1.2, fun e_ => Or.elim (ho0.1 k_ e_.symm) (fun hs_ => hk_.2.1 hs_) (fun hn_ => Nat.not_le.2 hk_.2.2 hn_)⟩)); have n1_ := Aside0.mk (Kd.R_mono (ok' := fun k_ => some k_ ≠ (.slice Ao106 t324.length co106 : Value).ownBlock ∧ some k_ ≠ (.slice Ao110 t330.length co110 : Value).ownBlock ∧ some k_ ≠ (.slice Ao111 t333.length co111 : Value).ownBlock ∧ some k_ ≠ (v338 : Value).ownBlock ∧ some k_ ≠ (v343 : Value).ownBlock ∧ some k_ ≠ (v346 : Value).ownBlock) (Kd.R_keptB (HO329.out) hkp (fun k_ hk_ hs_ => (hk_.1.2) hs_)) (fun k_ hk_ => ⟨hk_.1.1.1.1.1.1.2, hk_.1.1.1.1.1.2, hk_.1.1.1.1.2, hk_.1.1.1.2, hk_.1.2, fun e_ => Or.elim (ho0.1 k_ e_.symm) (fun hs_ => hk_.2.1 hs_) (fun hn_ => Nat.not_le.2 hk_.2.2 hn_)⟩)); have n2_ := Aside0.mk (Kd.R_mono (ok' := fun k_ => some k_ ≠ (.slice Ao106 t324.length co106 : Value).ownBlock ∧ some k_ ≠ (.slice Ao107 t327.length co107 : Value).ownBlock ∧ some k_ ≠ (.slice Ao111 t333.length co111 : Value).ownBlock ∧ some k_ ≠ (v338 : Value).ownBlock ∧ some k_ ≠ (v343 : Value).ownBlock ∧ some k_ ≠ (v346 : Value).ownBlock) (Kd.R_keptB (HO332.out) hkp (fun k_ hk_ hs_ => (hk_.1.2) hs_)) (fun k_ hk_ => ⟨hk_.1.1.1.1.1.1.2, hk_.1.1.1.1.1.2, hk_.1.1.1.1.2, hk_.1.1.1.2, hk_.1.2, fun e_ => Or.elim (ho0.1 k_ e_.symm) (fun hs_ => hk_.2.1 hs_) (fun hn_ => Nat.not_le.2 hk_.2.2 hn_)⟩)); have n3_ := Aside0.mk (Kd.R_mono (ok' := fun k_ => some k_ ≠ (.slice Ao106 t324.length co106 : Value).ownBlock ∧ some k_ ≠ (.slice Ao107 t327.length co107 : Value).ownBlock ∧ some k_ ≠ (.slice Ao110 t330.length co110 : Value).ownBlock ∧ some k_ ≠ (v338 : Value).ownBlock ∧ some k_ ≠ (v343 : Value).ownBlock ∧ some k_ ≠ (v346 : Value).ownBlock) (Kd.R_keptB (HO335.out) hkp (fun k_ hk_ hs_ => (hk_.1.2) hs_)) (fun k_ hk_ => ⟨hk_.1.1.1.1.1.1.2, hk_.1.1.1.1.1.2, hk_.1.1.1.1.2, hk_.1.1.1.2, hk_.1.2, fun e_ => Or.elim (ho0.1 k_ e_.symm) (fun hs_ => hk_.2.1 hs_) (fun hn_ => Nat.not_le.2 hk_.2.2 hn_)⟩)); have n4_ := Aside0.mk (Kd.R_mono (ok' := fun k_ => some k_ ≠ (.slice Ao106 t324.length co106 : Value).ownBlock ∧ some k_ ≠ (.slice Ao107 t327.length co107 : Value).ownBlock ∧ some k_ ≠ (.slice Ao110 t330.length co110 : Value).ownBlock ∧ some k_ ≠ (.slice Ao111 t333.length co111 : Value).ownBlock ∧ some k_ ≠ (v343 : Value).ownBlock ∧ some k_ ≠ (v346 : Value).ownBlock) (Kd.R_keptB (HO339.out) hkp (fun k_ hk_ hs_ => (hk_.1.1.1.1.1) hs_)) (fun k_ hk_ => ⟨hk_.1.1.1.1.1.2, hk_.1.1.1.1.2, hk_.1.1.1.2, hk_.1.1.2, hk_.1.2, fun e_ => Or.elim (ho0.1 k_ e_.symm) (fun hs_ => hk_.2.1 hs_) (fun hn_ => Nat.not_le.2 hk_.2.2 hn_)⟩)); have n5_ := Aside0.mk (Kd.R_mono (ok' := fun k_ => some k_ ≠ (.slice Ao106 t324.length co106 : Value).ownBlock ∧ some k_ ≠ (.slice Ao107 t327.length co107 : Value).ownBlock ∧ some k_ ≠ (.slice Ao110 t330.length co110 : Value).ownBlock ∧ some k_ ≠ (.slice Ao111 t333.length co111 : Value).ownBlock ∧ some k_ ≠ (v338 : Value).ownBlock ∧ some k_ ≠ (v346 : Value).ownBlock) (Kd.R_keptB (HO344.out) hkp (fun k_ hk_ hs_ => (hk_.2) hs_)) (fun k_ hk_ => ⟨hk_.1.1.1.1.1.1.2, hk_.1.1.1.1.1.2, hk_.1.1.1.1.2, hk_.1.1.1.2, hk_.1.1.2, fun e_ => Or.elim (ho0.1 k_ e_.symm) (fun hs_ => hk_.2.1 hs_) (fun hn_ => Nat.not_le.2 hk_.2.2 hn_)⟩)); have n6_ := Aside0.mk (Kd.R_mono (ok' := fun k_ => some k_ ≠ (.slice Ao106 t324.length co106 : Value).ownBlock ∧ some k_ ≠ (.slice Ao107 t327.length co107 : Value).ownBlock ∧ some k_ ≠ (.slice Ao110 t330.length co110 : Value).ownBlock ∧ some k_ ≠ (.slice Ao111 t333.length co111 : Value).ownBlock ∧ some k_ ≠ (v338 : Value).ownBlock ∧ some k_ ≠ (v343 : Value).ownBlock) ho0 (fun k_ hk_ => ⟨Or.elim hk_ (fun hs_ => fun e_ => (((HO326.out).1 k_ e_.symm).1.2) hs_) (fun hn_ => (Kd.fresh' (Kd.R_lt (by (with_reducible repeat (first | apply Kd.R_alloc | apply Kd.R_drewN | apply Kd.R_drew)); exact HO326.out)) k_ hn_)), Or.elim hk_ (fun hs_ => fun e_ => (((HO329.out).1 k_ e_.symm).1.2) hs_) (fun hn_ => (Kd.fresh' (Kd.R_lt (by (with_reducible repeat (first | apply Kd.R_alloc | apply Kd.R_drewN | apply Kd.R_drew)); exact HO329.out)) k_ hn_)), Or.elim hk_ (fun hs_ => fun e_ => (((HO332.out).1 k_ e_.symm).1.2) hs_) (fun hn_ => (Kd.fresh' (Kd.R_lt (by (with_reducible repeat (first | apply Kd.R_alloc | apply Kd.R_drewN | apply Kd.R_drew)); exact HO332.out)) k_ hn_)), Or.elim hk_ (fun hs_ => fun e_ => (((HO335.out).1 k_ e_.symm).1.2) hs_) (fun hn_ => (Kd.fresh' (Kd.R_lt (by (with_reducible repeat (first | apply Kd.R_alloc | apply Kd.R_drewN | apply Kd.R_drew)); exact HO335.out)) k_ hn_)), Or.elim hk_ (fun hs_ => fun e_ => (((HO339.out).1 k_ e_.symm).1.1.1.1.1) hs_) (fun hn_ => (Kd.fresh' (Kd.R_lt (by (with_reducible repeat (first | apply Kd.R_alloc | apply Kd.R_drewN | apply Kd.R_drew)); exact HO339.out)) k_ hn_)), Or.elim hk_ (fun hs_ => fun e_ => (((HO344.out).1 k_ e_.symm).2) hs_) (fun hn_ => (Kd.fresh' (Kd.R_lt (by (with_reducible repeat (first | apply Kd.R_alloc | apply Kd.R_drewN | apply Kd.R_drew)); exact HO344.out)) k_ hn_))⟩)); have n7_ := Aside0.mk (hb); clear HO326; clear HO329; clear HO332; clear HO335; clear HO339; clear HO344; clear HB; clear HO341; have HO326 := n0_; have HO329 := n1_; have HO332 := n2_; have HO335 := n3_; have HO339 := n4_; have HO344 := n5_; have HO347 := n6_; have HB := n7_; clear n0_ n1_ n2_ n3_ n4_ n5_ n6_ n7_; (try clear hb); (try clear hkp); (try clear ho0); obtain ⟨Ao116, co116, eo116⟩ := Kd.R_slice HO347.out; subst eo116) | ((with_reducible refine gate_callee (f := 44) rfl ?_); refine goesL_ (some 43) rfl rfl Try.func44 (by kernel_rfl) rfl #[.int .i64 a2] rfl (by (try simp only [List.map_toArray, List.map_cons, List.map_nil]); first | done | rfl | (simp only [List.length_drop, List.length_take]; rfl)) ?_; (with_reducible refine (soukref01_bits.calls k a2 t348 _ A99.out).mono ?_); rintro e w117 ⟨v349, rfl, ho0, hb⟩; refine ⟨_, rfl, ?_⟩; have n0_ := Aside0.mk (Kd.R_elder' (by (with_reducible repeat (first | apply Kd.R_alloc | apply Kd.R_drewN | apply Kd.R_drew)); exact HO326.out) (Kd.R_base ho0) hb); have n1_ := Aside0.mk (Kd.R_elder' (by (with_reducible repeat (first | apply Kd.R_alloc | apply Kd.R_drewN | apply Kd.R_drew)); exact HO329.out) (Kd.R_base ho0) hb); have n2_ := Aside0.mk (Kd.R_elder' (by (with_reducible repeat (first | apply Kd.R_alloc | apply Kd.R_drewN | apply Kd.R_drew)); exact HO332.out) (Kd.R_base ho0) hb); have n3_ := Aside0.mk (Kd.R_elder' (by (with_reducible repeat (first | apply Kd.R_alloc | apply Kd.R_drewN | apply Kd.R_drew)); exact HO335.out) (Kd.R_base ho0) hb); have n4_ := Aside0.mk (Kd.R_elder' (by (with_reducible repeat (first | apply Kd.R_alloc | apply Kd.R_drewN | apply Kd.R_drew)); exact HO339.out) (Kd.R_base ho0) hb); have n5_ := Aside0.mk (Kd.R_elder' (by (with_reducible repeat (first | apply Kd.R_alloc | apply Kd.R_drewN | apply Kd.R_drew)); exact HO344.out) (Kd.R_base ho0) hb); have n6_ := Aside0.mk (Kd.R_elder' (by (with_reducible repeat (first | apply Kd.R_alloc | apply Kd.R_drewN | apply Kd.R_drew)); exact HO347.out) (Kd.R_base ho0) hb); have n7_ := Aside0.mk (Kd.R_lower (Kd.R_new' (Kd.R_new' (Kd.R_new' (Kd.R_new' (Kd.R_new' (Kd.R_new' (Kd.R_new' ho0 (Kd.R_lt (by (with_reducible repeat (first | apply Kd.R_alloc | apply Kd.R_drewN | apply Kd.R_drew)); exact HO326.out))) (Kd.R_lt (by (with_reducible repeat (first | apply Kd.R_alloc | apply Kd.R_drewN | apply Kd.R_drew)); exact HO329.out))) (Kd.R_lt (by (with_reducible repeat (first | apply Kd.R_alloc | apply Kd.R_drewN | apply Kd.R_drew)); exact HO332.out))) (Kd.R_lt (by (with_reducible repeat (first | apply Kd.R_alloc | apply Kd.R_drewN | apply Kd.R_drew)); exact HO335.out))) (Kd.R_lt (by (with_reducible repeat (first | apply Kd.R_alloc | apply Kd.R_drewN | apply Kd.R_drew)); exact HO339.out))) (Kd.R_lt (by (with_reducible repeat (first | apply Kd.R_alloc | apply Kd.R_drewN | apply Kd.R_drew)); exact HO344.out))) (Kd.R_lt (by (with_reducible repeat (first | apply Kd.R_alloc | apply Kd.R_drewN | apply Kd.R_drew)); exact HO347.out))) (below_size (by repeat (first | (with_reducible first | exact HB.out | apply below_alloc | apply pw_below_drewN | apply below_drew1) | exact HB.out)))); have n8_ := Aside0.mk (below_step (by repeat (first | (with_reducible first | exact HB.out | apply below_alloc | apply pw_below_drewN | apply below_drew1) | exact HB.out)) hb); clear HO326; clear HO329; clear HO332; clear HO335; clear HO339; clear HO344; clear HO347; clear HB; have HO326 := n0_; have HO329 := n1_; have HO332 := n2_; have HO335 := n3_; have HO339 := n4_; have HO344 := n5_; have HO347 := n6_; have HO350 := n7_; have HB := n8_; clear n0_ n1_ n2_ n3_ n4_ n5_ n6_ n7_ n8_; (try clear hb); (try clear hb2); (try clear hk); (try clear hi); (try clear ho0); obtain ⟨Ao118, co118, eo118⟩ := Kd.R_slice HO344.out; subst eo118; obtain ⟨Ao119, co119, eo119⟩ := Kd.R_slice HO350.out; subst eo119) | ((with_reducible refine gate_callee (f := 47) rfl ?_); refine goesL_ (some 44) rfl rfl Try.func47 (by kernel_rfl) rfl #[.slice Ao118 t342.length co118, .slice Ao119 t348.length co119] rfl (by (try simp only [List.map_toArray, List.map_cons, List.map_nil]); first | done | rfl | (simp only [List.length_drop, List.length_take]; rfl)) ?_; (with_reducible refine (soukref01_less.calls k _ _ t342 _ _ t348 t351 _ ?side1 ?side2 ?side3 ?side4 A100.out).mono ?_); (case side1 => repeat (first | exact (Kd.R_reads' HO344.out).2.2 | (with_reducible refine Kd.C_alloc ?_ _) | (with_reducible refine Kd.C_drewN ?_ _) | (with_reducible refine Kd.C_drew ?_))); (case side2 => exact (Kd.R_reads' HO344.out).2.1); (case side3 => repeat (first | exact (Kd.R_reads' HO350.out).2.2 | (with_reducible refine Kd.C_alloc ?_ _) | (with_reducible refine Kd.C_drewN ?_ _) | (with_reducible refine Kd.C_drew ?_))); (case side4 => exact (Kd.R_reads' HO350.out).2.1); rintro e w120 ⟨rfl, hb⟩; refine ⟨_, rfl, ?_⟩; have n0_ := Aside0.mk (Kd.R_below (by (with_reducible repeat (first | apply Kd.R_alloc | apply Kd.R_drewN | apply Kd.R_drew)); exact HO326.out) hb); have n1_ := Aside0.mk (Kd.R_below (by (with_reducible repeat (first | apply Kd.R_alloc | apply Kd.R_drewN | apply Kd.R_drew)); exact HO329.out) hb); have n2_ := Aside0.mk (Kd.R_below (by (with_reducible repeat (first | apply Kd.R_alloc | apply Kd.R_drewN | apply Kd.R_drew)); exact HO332.out) hb); have n3_ := Aside0.mk (Kd.R_below (by (with_reducible repeat (first | apply Kd.R_alloc | apply Kd.R_drewN | apply Kd.R_drew)); exact HO335.out) hb); have n4_ := Aside0.mk (Kd.R_below (by (with_reducible repeat (first | apply Kd.R_alloc | apply Kd.R_drewN | apply Kd.R_drew)); exact HO339.out) hb); have n5_ := Aside0.mk (Kd.R_below (by (with_reducible repeat (first | apply Kd.R_alloc | apply Kd.R_drewN | apply Kd.R_drew)); exact HO344.out) hb); have n6_ := Aside0.mk (Kd.R_below (by (with_reducible repeat (first | apply Kd.R_alloc | apply Kd.R_drewN | apply Kd.R_drew)); exact HO347.out) hb); have n7_ := Aside0.mk (Kd.R_below (by (with_reducible repeat (first | apply Kd.R_alloc | apply Kd.R_drewN | apply Kd.R_drew)); exact HO350.out) hb); have n8_ := Aside0.mk (below_step (by repeat (first | (with_reducible first | exact HB.out | apply below_alloc | apply pw_below_drewN | apply below_drew1) | exact HB.out)) hb); clear HO326; clear HO329; clear HO332; clear HO335; clear HO339; clear HO344; clear HO347; clear HO350; clear HB; have HO326 := n0_; have HO329 := n1_; have HO332 := n2_; have HO335 := n3_; have HO339 := n4_; have HO344 := n5_; have HO347 := n6_; have HO350 := n7_; have HB := n8_; clear n0_ n1_ n2_ n3_ n4_ n5_ n6_ n7_ n8_; (try clear hb); (try clear hb2); (try clear hk); (try clear hi)) | ((with_reducible refine gate_callee (f := 44) rfl ?_); refine goesL_ (some 46) rfl rfl Try.func44 (by kernel_rfl) rfl #[.int .i64 a2] rfl (by (try simp only [List.map_toArray, List.map_cons, List.map_nil]); first | done | rfl | (simp only [List.length_drop, List.length_take]; rfl)) ?_; (with_reducible refine (soukref01_bits.calls k a2 t352 _ A101.out).mono ?_); rintro e w121 ⟨v353, rfl, ho0, hb⟩; refine ⟨_, rfl, ?_⟩; have n0_ := Aside0.mk (Kd.R_elder' (by (with_reducible repeat (first | apply Kd.R_alloc | apply Kd.R_drewN | apply Kd.R_drew)); exact HO326.out) (Kd.R_base ho0) hb); have n1_ := Aside0.mk (Kd.R_elder' (by (with_reducible repeat (first | apply Kd.R_alloc | apply Kd.R_drewN | apply Kd.R_drew)); exact HO329.out) (Kd.R_base ho0) hb); have n2_ := Aside0.mk (Kd.R_elder' (by (with_reducible repeat (first | apply Kd.R_alloc | apply Kd.R_drewN | apply Kd.R_drew)); exact HO332.out) (Kd.R_base ho0) hb); have n3_ := Aside0.mk (Kd.R_elder' (by (with_reducible repeat (first | apply Kd.R_alloc | apply Kd.R_drewN | apply Kd.R_drew)); exact HO335.out) (Kd.R_base ho0) hb); have n4_ := Aside0.mk (Kd.R_elder' (by (with_reducible repeat (first | apply Kd.R_alloc | apply Kd.R_drewN | apply Kd.R_drew)); exact HO339.out) (Kd.R_base ho0) hb); have n5_ := Aside0.mk (Kd.R_elder' (by (with_reducible repeat (first | apply Kd.R_alloc | apply Kd.R_drewN | apply Kd.R_drew)); exact HO344.out) (Kd.R_base ho0) hb); have n6_ := Aside0.mk (Kd.R_elder' (by (with_reducible repeat (first | apply Kd.R_alloc | apply Kd.R_drewN | apply Kd.R_drew)); exact HO347.out) (Kd.R_base ho0) hb); have n7_ := Aside0.mk (Kd.R_elder' (by (with_reducible repeat (first | apply Kd.R_alloc | apply Kd.R_drewN | apply Kd.R_drew)); exact HO350.out) (Kd.R_base ho0) hb); have n8_ := Aside0.mk (Kd.R_lower (Kd.R_new' (Kd.R_new' (Kd.R_new' (Kd.R_new' (Kd.R_new' (Kd.R_new' (Kd.R_new' (Kd.R_new' ho0 (Kd.R_lt (by (with_reducible repeat (first | apply Kd.R_alloc | apply Kd.R_drewN | apply Kd.R_drew)); exact HO326.out))) (Kd.R_lt (by (with_reducible repeat (first | apply Kd.R_alloc | apply Kd.R_drewN | apply Kd.R_drew)); exact HO329.out))) (Kd.R_lt (by (with_reducible repeat (first | apply Kd.R_alloc | apply Kd.R_drewN | apply Kd.R_drew)); exact HO332.out))) (Kd.R_lt (by (with_reducible repeat (first | apply Kd.R_alloc | apply Kd.R_drewN | apply Kd.R_drew)); exact HO335.out))) (Kd.R_lt (by (with_reducible repeat (first | apply Kd.R_alloc | apply Kd.R_drewN | apply Kd.R_drew)); exact HO339.out))) (Kd.R_lt (by (with_reducible repeat (first | apply Kd.R_alloc | apply Kd.R_drewN | apply Kd.R_drew)); exact HO344.out))) (Kd.R_lt (by (with_reducible repeat (first | apply Kd.R_alloc | apply Kd.R_drewN | apply Kd.R_drew)); exact HO347.out))) (Kd.R_lt (by (with_reducible repeat (first | apply Kd.R_alloc | apply Kd.R_drewN | apply Kd.R_drew)); exact HO350.out))) (below_size (by repeat (first | (with_reducible first | exact HB.out | apply below_alloc | apply pw_below_drewN | apply below_drew1) | exact HB.out)))); have n9_ := Aside0.mk (below_step (by repeat (first | (with_reducible first | exact HB.out | apply below_alloc | apply pw_below_drewN | apply below_drew1) | exact HB.out)) hb); clear HO326; clear HO329; clear HO332; clear HO335; clear HO339; clear HO344; clear HO347; clear HO350; clear HB; have HO326 := n0_; have HO329 := n1_; have HO332 := n2_; have HO335 := n3_; have HO339 := n4_; have HO344 := n5_; have HO347 := n6_; have HO350 := n7_; have HO354 := n8_; have HB := n9_; clear n0_ n1_ n2_ n3_ n4_ n5_ n6_ n7_ n8_ n9_; (try clear hb); (try clear hb2); (try clear hk); (try clear hi); (try clear ho0); obtain ⟨Ao122, co122, eo122⟩ := Kd.R_slice HO354.out; subst eo122) | ((with_reducible refine gate_callee (f := 47) rfl ?_); refine goesL_ (some 48) rfl rfl Try.func47 (by kernel_rfl) rfl #[.slice Ao122 t352.length co122, .slice Ao118 t342.length co118] rfl (by (try simp only [List.map_toArray, List.map_cons, List.map_nil]); first | done | rfl | (simp only [List.length_drop, List.length_take]; rfl)) ?_; (with_reducible refine (soukref01_less.calls k _ _ t352 _ _ t342 t355 _ ?side1 ?side2 ?side3 ?side4 A102.out).mono ?_); (case side1 => repeat (first | exact (Kd.R_reads' HO354.out).2.2 | (with_reducible refine Kd.C_alloc ?_ _) | (with_reducible refine Kd.C_drewN ?_ _) | (with_reducible refine Kd.C_drew ?_))); (case side2 => exact (Kd.R_reads' HO354.out).2.1); (case side3 => repeat (first | exact (Kd.R_reads' HO344.out).2.2 | (with_reducible refine Kd.C_alloc ?_ _) | (with_reducible refine Kd.C_drewN ?_ _) | (with_reducible refine Kd.C_drew ?_))); (case side4 => exact (Kd.R_reads' HO344.out).2.1); rintro e w123 ⟨rfl, hb⟩; refine ⟨_, rfl, ?_⟩; have n0_ := Aside0.mk (Kd.R_below (by (with_reducible repeat (first | apply Kd.R_alloc | apply Kd.R_drewN | apply Kd.R_drew)); exact HO326.out) hb); have n1_ := Aside0.mk (Kd.R_below (by (with_reducible repeat (first | apply Kd.R_alloc | apply Kd.R_drewN | apply Kd.R_drew)); exact HO329.out) hb); have n2_ := Aside0.mk (Kd.R_below (by (with_reducible repeat (first | apply Kd.R_alloc | apply Kd.R_drewN | apply Kd.R_drew)); exact HO332.out) hb); have n3_ := Aside0.mk (Kd.R_below (by (with_reducible repeat (first | apply Kd.R_alloc | apply Kd.R_drewN | apply Kd.R_drew)); exact HO335.out) hb); have n4_ := Aside0.mk (Kd.R_below (by (with_reducible repeat (first | apply Kd.R_alloc | apply Kd.R_drewN | apply Kd.R_drew)); exact HO339.out) hb); have n5_ := Aside0.mk (Kd.R_below (by (with_reducible repeat (first | apply Kd.R_alloc | apply Kd.R_drewN | apply Kd.R_drew)); exact HO344.out) hb); have n6_ := Aside0.mk (Kd.R_below (by (with_reducible repeat (first | apply Kd.R_alloc | apply Kd.R_drewN | apply Kd.R_drew)); exact HO347.out) hb); have n7_ := Aside0.mk (Kd.R_below (by (with_reducible repeat (first | apply Kd.R_alloc | apply Kd.R_drewN | apply Kd.R_drew)); exact HO350.out) hb); have n8_ := Aside0.mk (Kd.R_below (by (with_reducible repeat (first | apply Kd.R_alloc | apply Kd.R_drewN | apply Kd.R_drew)); exact HO354.out) hb); have n9_ := Aside0.mk (below_step (by repeat (first | (with_reducible first | exact HB.out | apply below_alloc | apply pw_below_drewN | apply below_drew1) | exact HB.out)) hb); clear HO326; clear HO329; clear HO332; clear HO335; clear HO339; clear HO344; clear HO347; clear HO350; clear HO354; clear HB; have HO326 := n0_; have HO329 := n1_; have HO332 := n2_; have HO335 := n3_; have HO339 := n4_; have HO344 := n5_; have HO347 := n6_; have HO350 := n7_; have HO354 := n8_; have HB := n9_; clear n0_ n1_ n2_ n3_ n4_ n5_ n6_ n7_ n8_ n9_; (try clear hb); (try clear hb2); (try clear hk); (try clear hi); obtain ⟨Ao124, co124, eo124⟩ := Kd.R_slice HO339.out; subst eo124) | ((with_reducible refine gate_callee (f := 49) rfl ?_); refine goesL_ (some 97) rfl rfl Try.func49 (by kernel_rfl) rfl #[.slice Ao124 t336.length co124, .bool false] rfl (by (try simp only [List.map_toArray, List.map_cons, List.map_nil]); first | done | rfl | (simp only [List.length_drop, List.length_take]; rfl)) ?_; (with_reducible refine (soukref01_value.calls k (fun k_ => some k_ = (.slice Ao124 t336.length co124 : Value).ownBlock) (.slice Ao124 t336.length co124) t336 false t356 t357 w _ ?side1 ?side2 A103.out).mono ?_); (case side1 => repeat (first | (with_reducible first | exact HB.out | apply below_alloc | apply pw_below_drewN | apply below_drew1) | exact HB.out)); (case side2 => exact Kd.R_tight rfl HO339.out); rintro e w125 ⟨rfl, hb, hkp⟩; refine ⟨_, rfl, ?_⟩; have n0_ := Aside0.mk (Kd.R_mono (ok' := fun k_ => some k_ ≠ (.slice Ao107 t327.length co107 : Value).ownBlock ∧ some k_ ≠ (.slice Ao110 t330.length co110 : Value).ownBlock ∧ some k_ ≠ (.slice Ao111 t333.length co111 : Value).ownBlock ∧ some k_ ≠ (.slice Ao118 t342.length co118 : Value).ownBlock ∧ some k_ ≠ (.slice Ao116 t345.length co116 : Value).ownBlock ∧ some k_ ≠ (.slice Ao119 t348.length co119 : Value).ownBlock ∧ some k_ ≠ (.slice Ao122 t352.length co122 : Value).ownBlock) (Kd.R_keptB (HO326.out) hkp (fun k_ hk_ hs_ => (hk_.1.1.2.2.2.1) hs_)) (fun k_ hk_ => ⟨hk_.1.1.1.1, hk_.1.1.1.2.1, hk_.1.1.1.2.2.1, hk_.1.1.1.2.2.2.2.1, hk_.1.1.1.2.2.2.2.2, hk_.1.1.2, hk_.1.2⟩)); have n1_ := Aside0.mk (Kd.R_mono (ok' := fun k_ => some k_ ≠ (.slice Ao106 t324.length co106 : Value).ownBlock ∧ some k_ ≠ (.slice Ao110 t330.length co110 : Value).ownBlock ∧ some k_ ≠ (.slice Ao111 t333.length co111 : Value).ownBlock ∧ some k_ ≠ (.slice Ao118 t342.length co118 : Value).ownBlock ∧ some k_ ≠ (.slice Ao116 t345.length co116 : Value).ownBlock ∧ some k_ ≠ (.slice Ao119 t348.length co119 : Value).ownBlock ∧ some k_ ≠ (.slice Ao122 t352.length co122 : Value).ownBlock) (Kd.R_keptB (HO329.out) hkp (fun k_ hk_ hs_ => (hk_.1.1.2.2.2.1) hs_)) (fun k_ hk_ => ⟨hk_.1.1.1.1, hk_.1.1.1.2.1, hk_.1.1.1.2.2.1, hk_.1.1.1.2.2.2.2.1, hk_.1.1.1.2.2.2.2.2, hk_.1.1.2, hk_.1.2⟩)); have n2_ := Aside0.mk (Kd.R_mono (ok' := fun k_ => some k_ ≠ (.slice Ao106 t324.length co106 : Value).ownBlock ∧ some k_ ≠ (.slice Ao107 t327.length co107 : Value).ownBlock ∧ some k_ ≠ (.slice Ao111 t333.length co111 : Value).ownBlock ∧ some k_ ≠ (.slice Ao118 t342.length co118 : Value).ownBlock ∧ some k_ ≠ (.slice Ao116 t345.length co116 : Value).ownBlock ∧ some k_ ≠ (.slice Ao119 t348.length co119 : Value).ownBlock ∧ some k_ ≠ (.slice Ao122 t352.length co122 : Value).ownBlock) (Kd.R_keptB (HO332.out) hkp (fun k_ hk_ hs_ => (hk_.1.1.2.2.2.1) hs_)) (fun k_ hk_ => ⟨hk_.1.1.1.1, hk_.1.1.1.2.1, hk_.1.1.1.2.2.1, hk_.1.1.1.2.2.2.2.1, hk_.1.1.1.2.2.2.2.2, hk_.1.1.2, hk_.1.2⟩)); have n3_ := Aside0.mk (Kd.R_mono (ok' := fun k_ => some k_ ≠ (.slice Ao106 t324.length co106 : Value).ownBlock ∧ some k_ ≠ (.slice Ao107 t327.length co107 : Value).ownBlock ∧ some k_ ≠ (.slice Ao110 t330.length co110 : Value).ownBlock ∧ some k_ ≠ (.slice Ao118 t342.length co118 : Value).ownBlock ∧ some k_ ≠ (.slice Ao116 t345.length co116 : Value).ownBlock ∧ some k_ ≠ (.slice Ao119 t348.length co119 : Value).ownBlock ∧ some k_ ≠ (.slice Ao122 t352.length co122 : Value).ownBlock) (Kd.R_keptB (HO335.out) hkp (fun k_ hk_ hs_ => (hk_.1.1.2.2.2.1) hs_)) (fun k_ hk_ => ⟨hk_.1.1.1.1, hk_.1.1.1.2.1, hk_.1.1.1.2.2.1, hk_.1.1.1.2.2.2.2.1, hk_.1.1.1.2.2.2.2.2, hk_.1.1.2, hk_.1.2⟩)); have n4_ := Aside0.mk (Kd.R_mono (ok' := fun k_ => some k_ ≠ (.slice Ao106 t324.length co106 : Value).ownBlock ∧ some k_ ≠ (.slice Ao107 t327.length co107 : Value).ownBlock ∧ some k_ ≠ (.slice Ao110 t330.length co110 : Value).ownBlock ∧ some k_ ≠ (.slice Ao111 t333.length co111 : Value).ownBlock ∧ some k_ ≠ (.slice Ao116 t345.length co116 : Value).ownBlock ∧ some k_ ≠ (.slice Ao119 t348.length co119 : Value).ownBlock ∧ some k_ ≠ (.slice Ao122 t352.length co122 : Value).ownBlock) (Kd.R_keptB (HO344.out) hkp (fun k_ hk_ hs_ => (hk_.1.1.2.2.2.2.1) hs_)) (fun k_ hk_ => ⟨hk_.1.1.1.1, hk_.1.1.1.2.1, hk_.1.1.1.2.2.1, hk_.1.1.1.2.2.2.1, hk_.1.1.1.2.2.2.2.2, hk_.1.1.2, hk_.1.2⟩)); have n5_ := Aside0.mk (Kd.R_mono (ok' := fun k_ => some k_ ≠ (.slice Ao106 t324.length co106 : Value).ownBlock ∧ some k_ ≠ (.slice Ao107 t327.length co107 : Value).ownBlock ∧ some k_ ≠ (.slice Ao110 t330.length co110 : Value).ownBlock ∧ some k_ ≠ (.slice Ao111 t333.length co111 : Value).ownBlock ∧ some k_ ≠ (.slice Ao118 t342.length co118 : Value).ownBlock ∧ some k_ ≠ (.slice Ao119 t348.length co119 : Value).ownBlock ∧ some k_ ≠ (.slice Ao122 t352.length co122 : Value).ownBlock) (Kd.R_keptB (HO347.out) hkp (fun k_ hk_ hs_ => (hk_.1.1.2.2.2.2.1) hs_)) (fun k_ hk_ => ⟨hk_.1.1.1.1, hk_.1.1.1.2.1, hk_.1.1.1.2.2.1, hk_.1.1.1.2.2.2.1, hk_.1.1.1.2.2.2.2.2, hk_.1.1.2, hk_.1.2⟩)); have n6_ := Aside0.mk (Kd.R_mono (ok' := fun k_ => some k_ ≠ (.slice Ao106 t324.length co106 : Value).ownBlock ∧ some k_ ≠ (.slice Ao107 t327.length co107 : Value).ownBlock ∧ some k_ ≠ (.slice Ao110 t330.length co110 : Value).ownBlock ∧ some k_ ≠ (.slice Ao111 t333.length co111 : Value).ownBlock ∧ some k_ ≠ (.slice Ao118 t342.length co118 : Value).ownBlock ∧ some k_ ≠ (.slice Ao116 t345.length co116 : Value).ownBlock ∧ some k_ ≠ (.slice Ao122 t352.length co122 : Value).ownBlock) (Kd.R_keptB (HO350.out) hkp (fun k_ hk_ hs_ => (hk_.1.1.1.2) hs_)) (fun k_ hk_ => ⟨hk_.1.1.1.1.1.1.1.1.2, hk_.1.1.1.1.1.1.1.2, hk_.1.1.1.1.1.1.2, hk_.1.1.1.1.1.2, hk_.1.1.1.2, hk_.1.1.2, hk_.1.2⟩)); have n7_ := Aside0.mk (Kd.R_mono (ok' := fun k_ => some k_ ≠ (.slice Ao106 t324.length co106 : Value).ownBlock ∧ some k_ ≠ (.slice Ao107 t327.length co107 : Value).ownBlock ∧ some k_ ≠ (.slice Ao110 t330.length co110 : Value).ownBlock ∧ some k_ ≠ (.slice Ao111 t333.length co111 : Value).ownBlock ∧ some k_ ≠ (.slice Ao118 t342.length co118 : Value).ownBlock ∧ some k_ ≠ (.slice Ao116 t345.length co116 : Value).ownBlock ∧ some k_ ≠ (.slice Ao119 t348.length co119 : Value).ownBlock) (Kd.R_keptB (HO354.out) hkp (fun k_ hk_ hs_ => (hk_.1.1.1.2) hs_)) (fun k_ hk_ => ⟨hk_.1.1.1.1.1.1.1.1.2, hk_.1.1.1.1.1.1.1.2, hk_.1.1.1.1.1.1.2, hk_.1.1.1.1.1.2, hk_.1.1.1.2, hk_.1.1.2, hk_.1.2⟩)); have n8_ := Aside0.mk (hb); clear HO326; clear HO329; clear HO332; clear HO335; clear HO344; clear HO347; clear HO350; clear HO354; clear HB; clear HO339; have HO326 := n0_; have HO329 := n1_; have HO332 := n2_; have HO335 := n3_; have HO344 := n4_; have HO347 := n5_; have HO350 := n6_; have HO354 := n7_; have HB := n8_; clear n0_ n1_ n2_ n3_ n4_ n5_ n6_ n7_ n8_; (try clear hb); (try clear hkp)))
   go_ret2
   exact ⟨by first | rfl | (simp [errW_none, errW_some] <;> rfl) | (simp [*, errW_none, errW_some] <;> rfl), by repeat (first | (with_reducible first | exact HB.out | apply below_alloc | apply pw_below_drewN | apply below_drew1) | exact HB.out)⟩
  ·rw [if_neg c98] at H
   have c98b0 : ((t345.length : Int) == 0) = false := beq_eq_false_iff_ne.mpr c98
   have c98b1 : ((t345.length : Int) != 0) = true := bne_iff_ne.mpr c98
   have c98b2 : ¬ (t345 = []) := fun h_ => c98 (by rw [h_]; rfl)
   replace H := Option.bind_eq_some_iff.mp H
   obtain ⟨t358, A1260, H⟩ := H
   replace H : ((soukref01_less.f k t342 t358).bind fun t361 => ((soukref01_bits.f k a2).bind fun t362 => ((soukref01_less.f k t362 t342).bind fun t365 => (if a3 = 0 then (if a3 = 1 then (soukref01_MulDiv.j3 k a3 false t336 false t361 t365 true) else (if a3 = 2 then (soukref01_MulDiv.j3 k a3 false t336 false t361 t365 t365) else (soukref01_MulDiv.j3 k a3 false t336 false t361 t365 false))) else (if a3 = 1 then (soukref01_MulDiv.j3 k a3 false t336 false t361 t365 true) else (if a3 = 2 then (soukref01_MulDiv.j3 k a3 false t336 false t361 t365 t365) else (soukref01_MulDiv.j3 k a3 false t336 false t361 t365 false))))))) = some (r1, r2) := H
   have A126 := Aside0.mk A1260
   clear A1260
   replace H := Option.bind_eq_some_iff.mp H
   obtain ⟨t361, A1270, H⟩ := H
   replace H : ((soukref01_bits.f k a2).bind fun t362 => ((soukref01_less.f k t362 t342).bind fun t365 => (if a3 = 0 then (if a3 = 1 then (soukref01_MulDiv.j3 k a3 false t336 false t361 t365 true) else (if a3 = 2 then (soukref01_MulDiv.j3 k a3 false t336 false t361 t365 t365) else (soukref01_MulDiv.j3 k a3 false t336 false t361 t365 false))) else (if a3 = 1 then (soukref01_MulDiv.j3 k a3 false t336 false t361 t365 true) else (if a3 = 2 then (soukref01_MulDiv.j3 k a3 false t336 false t361 t365 t365) else (soukref01_MulDiv.j3 k a3 false t336 false t361 t365 false)))))) = some (r1, r2) := H
   have A127 := Aside0.mk A1270
   clear A1270
   replace H := Option.bind_eq_some_iff.mp H
   obtain ⟨t362, A1280, H⟩ := H
   replace H : ((soukref01_less.f k t362 t342).bind fun t365 => (if a3 = 0 then (if a3 = 1 then (soukref01_MulDiv.j3 k a3 false t336 false t361 t365 true) else (if a3 = 2 then (soukref01_MulDiv.j3 k a3 false t336 false t361 t365 t365) else (soukref01_MulDiv.j3 k a3 false t336 false t361 t365 false))) else (if a3 = 1 then (soukref01_MulDiv.j3 k a3 false t336 false t361 t365 true) else (if a3 = 2 then (soukref01_MulDiv.j3 k a3 false t336 false t361 t365 t365) else (soukref01_MulDiv.j3 k a3 false t336 false t361 t365 false))))) = some (r1, r2) := H
   have A128 := Aside0.mk A1280
   clear A1280
   replace H := Option.bind_eq_some_iff.mp H
   obtain ⟨t365, A1290, H⟩ := H
   replace H : (if a3 = 0 then (if a3 = 1 then (soukref01_MulDiv.j3 k a3 false t336 false t361 t365 true) else (if a3 = 2 then (soukref01_MulDiv.j3 k a3 false t336 false t361 t365 t365) else (soukref01_MulDiv.j3 k a3 false t336 false t361 t365 false))) else (if a3 = 1 then (soukref01_MulDiv.j3 k a3 false t336 false t361 t365 true) else (if a3 = 2 then (soukref01_MulDiv.j3 k a3 false t336 false t361 t365 t365) else (soukref01_MulDiv.j3 k a3 false t336 false t361 t365 false)))) = some (r1, r2) := H
   have A129 := Aside0.mk A1290
   clear A1290
   have HC130 := Aside0.mk H
   clear H
   go_enter Try.func19, Try.ntmps19
   go_upto_region 7 with (first | ((with_reducible refine gate_callee (f := 44) rfl ?_); refine goesL_ (some 25) rfl rfl Try.func44 (by kernel_rfl) rfl #[.int .i64 a0] rfl (by (try simp only [List.map_toArray, List.map_cons, List.map_nil]); first | done | rfl | (simp only [List.length_drop, List.length_take]; rfl)) ?_; (with_reducible refine (soukref01_bits.calls k a0 t324 _ A91.out).mono ?_); rintro e w131 ⟨v325, rfl, ho0, hb⟩; refine ⟨_, rfl, ?_⟩; have n0_ := Aside0.mk (Kd.R_lower ho0 (below_size (by repeat (first | (with_reducible first | exact HB.out | apply below_alloc | apply pw_below_drewN | apply below_drew1) | exact HB.out)))); have n1_ := Aside0.mk (below_step (by repeat (first | (with_reducible first | exact HB.out | apply below_alloc | apply pw_below_drewN | apply below_drew1) | exact HB.out)) hb); clear HB; have HO326 := n0_; have HB := n1_; clear n0_ n1_; (try clear hb); (try clear hb2); (try clear hk); (try clear hi); (try clear ho0)) | ((with_reducible refine gate_callee (f := 44) rfl ?_); refine goesL_ (some 27) rfl rfl Try.func44 (by kernel_rfl) rfl #[.int .i64 a1] rfl (by (try simp only [List.map_toArray, List.map_cons, List.map_nil]); first | done | rfl | (simp only [List.length_drop, List.length_take]; rfl)) ?_; (with_reducible refine (soukref01_bits.calls k a1 t327 _ A92.out).mono ?_); rintro e w132 ⟨v328, rfl, ho0, hb⟩; refine ⟨_, rfl, ?_⟩; have n0_ := Aside0.mk (Kd.R_elder' (by (with_reducible repeat (first | apply Kd.R_alloc | apply Kd.R_drewN | apply Kd.R_drew)); exact HO326.out) (Kd.R_base ho0) hb); have n1_ := Aside0.mk (Kd.R_lower (Kd.R_new' ho0 (Kd.R_lt (by (with_reducible repeat (first | apply Kd.R_alloc | apply Kd.R_drewN | apply Kd.R_drew)); exact HO326.out))) (below_size (by repeat (first | (with_reducible first | exact HB.out | apply below_alloc | apply pw_below_drewN | apply below_drew1) | exact HB.out)))); have n2_ := Aside0.mk (below_step (by repeat (first | (with_reducible first | exact HB.out | apply below_alloc | apply pw_below_drewN | apply below_drew1) | exact HB.out)) hb); clear HO326; clear HB; have HO326 := n0_; have HO329 := n1_; have HB := n2_; clear n0_ n1_ n2_; (try clear hb); (try clear hb2); (try clear hk); (try clear hi); (try clear ho0); obtain ⟨Ao133, co133, eo133⟩ := Kd.R_slice HO326.out; subst eo133; obtain ⟨Ao134, co134, eo134⟩ := Kd.R_slice HO329.out; subst eo134) | ((with_reducible refine gate_callee (f := 43) rfl ?_); refine goesL_ (some 28) rfl rfl Try.func43 (by kernel_rfl) rfl #[.slice Ao133 t324.length co133, .slice Ao134 t327.length co134] rfl (by (try simp only [List.map_toArray, List.map_cons, List.map_nil]); first | done | rfl | (simp only [List.length_drop, List.length_take]; rfl)) ?_; (with_reducible refine (soukref01_Times.calls k _ _ t324 _ _ t327 t330 _ ?side1 ?side2 ?side3 ?side4 A93.out).mono ?_); (case side1 => repeat (first | exact (Kd.R_reads' HO326.out).2.2 | (with_reducible refine Kd.C_alloc ?_ _) | (with_reducible refine Kd.C_drewN ?_ _) | (with_reducible refine Kd.C_drew ?_))); (case side2 => exact (Kd.R_reads' HO326.out).2.1); (case side3 => repeat (first | exact (Kd.R_reads' HO329.out).2.2 | (with_reducible refine Kd.C_alloc ?_ _) | (with_reducible refine Kd.C_drewN ?_ _) | (with_reducible refine Kd.C_drew ?_))); (case side4 => exact (Kd.R_reads' HO329.out).2.1); rintro e w135 ⟨v331, rfl, ho0, hb⟩; refine ⟨_, rfl, ?_⟩; have n0_ := Aside0.mk (Kd.R_elder' (by (with_reducible repeat (first | apply Kd.R_alloc | apply Kd.R_drewN | apply Kd.R_drew)); exact HO326.out) (Kd.R_base ho0) hb); have n1_ := Aside0.mk (Kd.R_elder' (by (with_reducible repeat (first | apply Kd.R_alloc | apply Kd.R_drewN | apply Kd.R_drew)); exact HO329.out) (Kd.R_base ho0) hb); have n2_ := Aside0.mk (Kd.R_lower (Kd.R_new' (Kd.R_new' ho0 (Kd.R_lt (by (with_reducible repeat (first | apply Kd.R_alloc | apply Kd.R_drewN | apply Kd.R_drew)); exact HO326.out))) (Kd.R_lt (by (with_reducible repeat (first | apply Kd.R_alloc | apply Kd.R_drewN | apply Kd.R_drew)); exact HO329.out))) (below_size (by repeat (first | (with_reducible first | exact HB.out | apply below_alloc | apply pw_below_drewN | apply below_drew1) | exact HB.out)))); have n3_ := Aside0.mk (below_step (by repeat (first | (with_reducible first | exact HB.out | apply below_alloc | apply pw_below_drewN | apply below_drew1) | exact HB.out)) hb); clear HO326; clear HO329; clear HB; have HO326 := n0_; have HO329 := n1_; have HO332 := n2_; have HB := n3_; clear n0_ n1_ n2_ n3_; (try clear hb); (try clear hb2); (try clear hk); (try clear hi); (try clear ho0)) | ((with_reducible refine gate_callee (f := 44) rfl ?_); refine goesL_ (some 30) rfl rfl Try.func44 (by kernel_rfl) rfl #[.int .i64 a2] rfl (by (try simp only [List.map_toArray, List.map_cons, List.map_nil]); first | done | rfl | (simp only [List.length_drop, List.length_take]; rfl)) ?_; (with_reducible refine (soukref01_bits.calls k a2 t333 _ A94.out).mono ?_); rintro e w136 ⟨v334, rfl, ho0, hb⟩; refine ⟨_, rfl, ?_⟩; have n0_ := Aside0.mk (Kd.R_elder' (by (with_reducible repeat (first | apply Kd.R_alloc | apply Kd.R_drewN | apply Kd.R_drew)); exact HO326.out) (Kd.R_base ho0) hb); have n1_ := Aside0.mk (Kd.R_elder' (by (with_reducible repeat (first | apply Kd.R_alloc | apply Kd.R_drewN | apply Kd.R_drew)); exact HO329.out) (Kd.R_base ho0) hb); have n2_ := Aside0.mk (Kd.R_elder' (by (with_reducible repeat (first | apply Kd.R_alloc | apply Kd.R_drewN | apply Kd.R_drew)); exact HO332.out) (Kd.R_base ho0) hb); have n3_ := Aside0.mk (Kd.R_lower (Kd.R_new' (Kd.R_new' (Kd.R_new' ho0 (Kd.R_lt (by (with_reducible repeat (first | apply Kd.R_alloc | apply Kd.R_drewN | apply Kd.R_drew)); exact HO326.out))) (Kd.R_lt (by (with_reducible repeat (first | apply Kd.R_alloc | apply Kd.R_drewN | apply Kd.R_drew)); exact HO329.out))) (Kd.R_lt (by (with_reducible repeat (first | apply Kd.R_alloc | apply Kd.R_drewN | apply Kd.R_drew)); exact HO332.out))) (below_size (by repeat (first | (with_reducible first | exact HB.out | apply below_alloc | apply pw_below_drewN | apply below_drew1) | exact HB.out)))); have n4_ := Aside0.mk (below_step (by repeat (first | (with_reducible first | exact HB.out | apply below_alloc | apply pw_below_drewN | apply below_drew1) | exact HB.out)) hb); clear HO326; clear HO329; clear HO332; clear HB; have HO326 := n0_; have HO329 := n1_; have HO332 := n2_; have HO335 := n3_; have HB := n4_; clear n0_ n1_ n2_ n3_ n4_; (try clear hb); (try clear hb2); (try clear hk); (try clear hi); (try clear ho0); obtain ⟨Ao137, co137, eo137⟩ := Kd.R_slice HO332.out; subst eo137; obtain ⟨Ao138, co138, eo138⟩ := Kd.R_slice HO335.out; subst eo138) | ((with_reducible refine gate_callee (f := 42) rfl ?_); refine goesL_ (some 31) rfl rfl Try.func42 (by kernel_rfl) rfl #[.slice Ao137 t330.length co137, .slice Ao138 t333.length co138] rfl (by (try simp only [List.map_toArray, List.map_cons, List.map_nil]); first | done | rfl | (simp only [List.length_drop, List.length_take]; rfl)) ?_; (with_reducible refine (soukref01_Div.calls k _ _ t330 _ _ t333 t336 t337 _ ?side1 ?side2 ?side3 ?side4 A95.out).mono ?_); (case side1 => repeat (first | exact (Kd.R_reads' HO332.out).2.2 | (with_reducible refine Kd.C_alloc ?_ _) | (with_reducible refine Kd.C_drewN ?_ _) | (with_reducible refine Kd.C_drew ?_))); (case side2 => exact (Kd.R_reads' HO332.out).2.1); (case side3 => repeat (first | exact (Kd.R_reads' HO335.out).2.2 | (with_reducible refine Kd.C_alloc ?_ _) | (with_reducible refine Kd.C_drewN ?_ _) | (with_reducible refine Kd.C_drew ?_))); (case side4 => exact (Kd.R_reads' HO335.out).2.1); rintro e w139 ⟨v338, v340, rfl, ho0, ho1, hb⟩; refine ⟨_, rfl, ?_⟩; have n0_ := Aside0.mk (Kd.R_mono (Kd.R_told (Kd.R_told (Kd.R_old (by (with_reducible repeat (first | apply Kd.R_alloc | apply Kd.R_drewN | apply Kd.R_drew)); exact HO326.out) hb) (Kd.R_base ho0)) (Kd.R_base ho1)) (fun _ h_ => h_.1)); have n1_ := Aside0.mk (Kd.R_mono (Kd.R_told (Kd.R_told (Kd.R_old (by (with_reducible repeat (first | apply Kd.R_alloc | apply Kd.R_drewN | apply Kd.R_drew)); exact HO329.out) hb) (Kd.R_base ho0)) (Kd.R_base ho1)) (fun _ h_ => h_.1)); have n2_ := Aside0.mk (Kd.R_mono (Kd.R_told (Kd.R_told (Kd.R_old (by (with_reducible repeat (first | apply Kd.R_alloc | apply Kd.R_drewN | apply Kd.R_drew)); exact HO332.out) hb) (Kd.R_base ho0)) (Kd.R_base ho1)) (fun _ h_ => h_.1)); have n3_ := Aside0.mk (Kd.R_mono (Kd.R_told (Kd.R_told (Kd.R_old (by (with_reducible repeat (first | apply Kd.R_alloc | apply Kd.R_drewN | apply Kd.R_drew)); exact HO335.out) hb) (Kd.R_base ho0)) (Kd.R_base ho1)) (fun _ h_ => h_.1)); have n4_ := Aside0.mk (Kd.R_lower (Kd.R_new' (Kd.R_new' (Kd.R_new' (Kd.R_new' ho0 (Kd.R_lt (by (with_reducible repeat (first | apply Kd.R_alloc | apply Kd.R_drewN | apply Kd.R_drew)); exact HO326.out))) (Kd.R_lt (by (with_reducible repeat (first | apply Kd.R_alloc | apply Kd.R_drewN | apply Kd.R_drew)); exact HO329.out))) (Kd.R_lt (by (with_reducible repeat (first | apply Kd.R_alloc | apply Kd.R_drewN | apply Kd.R_drew)); exact HO332.out))) (Kd.R_lt (by (with_reducible repeat (first | apply Kd.R_alloc | apply Kd.R_drewN | apply Kd.R_drew)); exact HO335.out))) (below_size (by repeat (first | (with_reducible first | exact HB.out | apply below_alloc | apply pw_below_drewN | apply below_drew1) | exact HB.out)))); have n5_ := Aside0.mk (Kd.R_lower (Kd.R_new' (Kd.R_new' (Kd.R_new' (Kd.R_new' ho1 (Kd.R_lt (by (with_reducible repeat (first | apply Kd.R_alloc | apply Kd.R_drewN | apply Kd.R_drew)); exact HO326.out))) (Kd.R_lt (by (with_reducible repeat (first | apply Kd.R_alloc | apply Kd.R_drewN | apply Kd.R_drew)); exact HO329.out))) (Kd.R_lt (by (with_reducible repeat (first | apply Kd.R_alloc | apply Kd.R_drewN | apply Kd.R_drew)); exact HO332.out))) (Kd.R_lt (by (with_reducible repeat (first | apply Kd.R_alloc | apply Kd.R_drewN | apply Kd.R_drew)); exact HO335.out))) (below_size (by repeat (first | (with_reducible first | exact HB.out | apply below_alloc | apply pw_below_drewN | apply below_drew1) | exact HB.out)))); have n6_ := Aside0.mk (below_step (by repeat (first | (with_reducible first | exact HB.out | apply below_alloc | apply pw_below_drewN | apply below_drew1) | exact HB.out)) hb); clear HO326; clear HO329; clear HO332; clear HO335; clear HB; have HO326 := n0_; have HO329 := n1_; have HO332 := n2_; have HO335 := n3_; have HO339 := n4_; have HO341 := n5_; have HB := n6_; clear n0_ n1_ n2_ n3_ n4_ n5_ n6_; (try clear hb); (try clear hb2); (try clear hk); (try clear hi); (try clear ho0); (try clear ho1); obtain ⟨Ao140, co140, eo140⟩ := Kd.R_slice HO341.out; subst eo140) | ((with_reducible refine gate_callee (f := 45) rfl ?_); refine goesL_ (some 36) rfl rfl Try.func45 (by kernel_rfl) rfl #[.slice Ao140 t337.length co140, .slice Ao140 t337.length co140] rfl (by (try simp only [List.map_toArray, List.map_cons, List.map_nil]); first | done | rfl | (simp only [List.length_drop, List.length_take]; rfl)) ?_; (with_reducible refine (soukref01_Plus.calls k _ _ t337 _ _ t337 t342 _ ?side1 ?side2 ?side3 ?side4 A96.out).mono ?_); (case side1 => repeat (first | exact (Kd.R_reads' HO341.out).2.2 | (with_reducible refine Kd.C_alloc ?_ _) | (with_reducible refine Kd.C_drewN ?_ _) | (with_reducible refine Kd.C_drew ?_))); (case side2 => exact (Kd.R_reads' HO341.out).2.1); (case side3 => repeat (first | exact (Kd.R_reads' HO341.out).2.2 | (with_reducible refine Kd.C_alloc ?_ _) | (with_reducible refine Kd.C_drewN ?_ _) | (with_reducible refine Kd.C_drew ?_))); (case side4 => exact (Kd.R_reads' HO341.out).2.1); rintro e w141 ⟨v343, rfl, ho0, hb⟩; refine ⟨_, rfl, ?_⟩; have n0_ := Aside0.mk (Kd.R_elder' (by (with_reducible repeat (first | apply Kd.R_alloc | apply Kd.R_drewN | apply Kd.R_drew)); exact HO326.out) (Kd.R_base ho0) hb); have n1_ := Aside0.mk (Kd.R_elder' (by (with_reducible repeat (first | apply Kd.R_alloc | apply Kd.R_drewN | apply Kd.R_drew)); exact HO329.out) (Kd.R_base ho0) hb); have n2_ := Aside0.mk (Kd.R_elder' (by (with_reducible repeat (first | apply Kd.R_alloc | apply Kd.R_drewN | apply Kd.R_drew)); exact HO332.out) (Kd.R_base ho0) hb); have n3_ := Aside0.mk (Kd.R_elder' (by (with_reducible repeat (first | apply Kd.R_alloc | apply Kd.R_drewN | apply Kd.R_drew)); exact HO335.out) (Kd.R_base ho0) hb); have n4_ := Aside0.mk (Kd.R_elder' (by (with_reducible repeat (first | apply Kd.R_alloc | apply Kd.R_drewN | apply Kd.R_drew)); exact HO339.out) (Kd.R_base ho0) hb); have n5_ := Aside0.mk (Kd.R_elder' (by (with_reducible repeat (first | apply Kd.R_alloc | apply Kd.R_drewN | apply Kd.R_drew)); exact HO341.out) (Kd.R_base ho0) hb); have n6_ := Aside0.mk (Kd.R_lower (Kd.R_new' (Kd.R_new' (Kd.R_new' (Kd.R_new' (Kd.R_new' (Kd.R_new' ho0 (Kd.R_lt (by (with_reducible repeat (first | apply Kd.R_alloc | apply Kd.R_drewN | apply Kd.R_drew)); exact HO326.out))) (Kd.R_lt (by (with_reducible repeat (first | apply Kd.R_alloc | apply Kd.R_drewN | apply Kd.R_drew)); exact HO329.out))) (Kd.R_lt (by (with_reducible repeat (first | apply Kd.R_alloc | apply Kd.R_drewN | apply Kd.R_drew)); exact HO332.out))) (Kd.R_lt (by (with_reducible repeat (first | apply Kd.R_alloc | apply Kd.R_drewN | apply Kd.R_drew)); exact HO335.out))) (Kd.R_lt (by (with_reducible repeat (first | apply Kd.R_alloc | apply Kd.R_drewN | apply Kd.R_drew)); exact HO339.out))) (Kd.R_lt (by (with_reducible repeat (first | apply Kd.R_alloc | apply Kd.R_drewN | apply Kd.R_drew)); exact HO341.out))) (below_size (by repeat (first | (with_reducible first | exact HB.out | apply below_alloc | apply pw_below_drewN | apply below_drew1) | exact HB.out)))); have n7_ := Aside0.mk (below_step (by repeat (first | (with_reducible first | exact HB.out | apply below_alloc | apply pw_below_drewN | apply below_drew1) | exact HB.out)) hb); clear HO326; clear HO329; clear HO332; clear HO335; clear HO339; clear HO341; clear HB; have HO326 := n0_; have HO329 := n1_; have HO332 := n2_; have HO335 := n3_; have HO339 := n4_; have HO341 := n5_; have HO344 := n6_; have HB := n7_; clear n0_ n1_ n2_ n3_ n4_ n5_ n6_ n7_; (try clear hb); (try clear hb2); (try clear hk); (try clear hi); (try clear ho0)) | ((with_reducible refine gate_callee (f := 46) rfl ?_); refine goesL_ (some 38) rfl rfl Try.func46 (by kernel_rfl) rfl #[.slice Ao140 t337.length co140] rfl (by (try simp only [List.map_toArray, List.map_cons, List.map_nil]); first | done | rfl | (simp only [List.length_drop, List.length_take]; rfl)) ?_; (with_reducible refine (soukref01_trim.calls k (fun k_ => some k_ = (.slice Ao140 t337.length co140 : Value).ownBlock) (.slice Ao140 t337.length co140) t337 t345 w _ ?side1 ?side2 A97.out).mono ?_); (case side1 => repeat (first | (with_reducible first | exact HB.out | apply below_alloc | apply pw_below_drewN | apply below_drew1) | exact HB.out)); (case side2 => exact Kd.R_tight rfl HO341.out); rintro e w142 ⟨v346, rfl, ho0, hb, hkp⟩; refine ⟨_, rfl, ?_⟩; have n0_ := Aside0.mk (Kd.R_mono (ok' := fun k_ => some k_ ≠ (.slice Ao134 t327.length co134 : Value).ownBlock ∧ some k_ ≠ (.slice Ao137 t330.length co137 : Value).ownBlock ∧ some k_ ≠ (.slice Ao138 t333.length co138 : Value).ownBlock ∧ some k_ ≠ (v338 : Value).ownBlock ∧ some k_ ≠ (v343 : Value).ownBlock ∧ some k_ ≠ (v346 : Value).ownBlock) (Kd.R_keptB (HO326.out) hkp (fun k_ hk_ hs_ => (hk_.1.2) hs_)) (fun k_ hk_ => ⟨hk_.1.1.1.1.1.1.2, hk_.1.1.1.1.1.2, hk_.1.1.1.1.2, hk_.1.1.1.2, hk_.1.2, fun e_ => Or.elim (ho0.1 k_ e_.symm) (fun hs_ => hk_.2.1 hs_) (fun hn_ => Nat.not_le.2 hk_.2.2 hn_)⟩)); have n1_ := Aside0.mk (Kd.R_mono (ok' := fun k_ => some k_ ≠ (.slice Ao133 t324.length co133 : Value).ownBlock ∧ some k_ ≠ (.slice Ao137 t330.length co137 : Value).ownBlock ∧ some k_ ≠ (.slice Ao138 t333.length co138 : Value).ownBlock ∧ some k_ ≠ (v338 : Value).ownBlock ∧ some k_ ≠ (v343 : Value).ownBlock ∧ some k_ ≠ (v346 : Value).ownBlock) (Kd.R_keptB (HO329.out) hkp (fun k_ hk_ hs_ => (hk_.1.2) hs_)) (fun k_ hk_ => ⟨hk_.1.1.1.1.1.1.2, hk_.1.1.1.1.1.2, hk_.1.1.1.1.2, hk_.1.1.1.2, hk_.1.2, fun e_ => Or.elim (ho0.1 k_ e_.symm) (fun hs_ => hk_.2.1 hs_) (fun hn_ => Nat.not_le.2 hk_.2.2 hn_)⟩)); have n2_ := Aside0.mk (Kd.R_mono (ok' := fun k_ => some k_ ≠ (.slice Ao133 t324.length co133 : Value).ownBlock ∧ some k_ ≠ (.slice Ao134 t327.length co134 : Value).ownBlock ∧ some k_ ≠ (.slice Ao138 t333.length co138 : Value).ownBlock ∧ some k_ ≠ (v338 : Value).ownBlock ∧ some k_ ≠ (v343 : Value).ownBlock ∧ some k_ ≠ (v346 : Value).ownBlock) (Kd.R_keptB (HO332.out) hkp (fun k_ hk_ hs_ => (hk_.1.2) hs_)) (fun k_ hk_ => ⟨hk_.1.1.1.1.1.1.2, hk_.1.1.1.1.1.2, hk_.1.1.1.1.2, hk_.1.1.1.2, hk_.1.2, fun e_ => Or.elim (ho0.1 k_ e_.symm) (fun hs_ => hk_.2.1 hs_) (fun hn_ => Nat.not_le.2 hk_.2.2 hn_)⟩)); have n3_ := Aside0.mk (Kd.R_mono (ok' := fun k_ => some k_ ≠ (.slice Ao133 t324.length co133 : Value).ownBlock ∧ some k_ ≠ (.slice Ao134 t327.length co134 : Value).ownBlock ∧ some k_ ≠ (.slice Ao137 t330.length co137 : Value).ownBlock ∧ some k_ ≠ (v338 : Value).ownBlock ∧ some k_ ≠ (v343 : Value).ownBlock ∧ some k_ ≠ (v346 : Value).ownBlock) (Kd.R_keptB (HO335.out) hkp (fun k_ hk_ hs_ => (hk_.1.2) hs_)) (fun k_ hk_ => ⟨hk_.1.1.1.1.1.1.2, hk_.1.1.1.1.1.2, hk_.1.1.1.1.2, hk_.1.1.1.2, hk_.1.2, fun e_ => Or.elim (ho0.1 k_ e_.symm) (fun hs_ => hk_.2.1 hs_) (fun hn_ => Nat.not_le.2 hk_.2.2 hn_)⟩)); have n4_ := Aside0.mk (Kd.R_mono (ok' := fun k_ => some k_ ≠ (.slice Ao133 t324.length co133 : Value).ownBlock ∧ some k_ ≠ (.slice Ao134 t327.length co134 : Value).ownBlock ∧ some k_ ≠ (.slice Ao137 t330.length co137 : Value).ownBlock ∧ some k_ ≠ (.slice Ao138 t333.length co138 : Value).ownBlock ∧ some k_ ≠ (v343 : Value).ownBlock ∧ some k_ ≠ (v346 : Value).ownBlock) (Kd.R_keptB (HO339.out) hkp (fun k_ hk_ hs_ => (hk_.1.1.1.1.1) hs_)) (fun k_ hk_ => ⟨hk_.1.1.1.1.1.2, hk_.1.1.1.1.2, hk_.1.1.1.2, hk_.1.1.2, hk_.1.2, fun e_ => Or.elim (ho0.1 k_ e_.symm) (fun hs_ => hk_.2.1 hs_) (fun hn_ => Nat.not_le.2 hk_.2.2 hn_)⟩)); have n5_ := Aside0.mk (Kd.R_mono (ok' := fun k_ => some k_ ≠ (.slice Ao133 t324.length co133 : Value).ownBlock ∧ some k_ ≠ (.slice Ao134 t327.length co134 : Value).ownBlock ∧ some k_ ≠ (.slice Ao137 t330.length co137 : Value).ownBlock ∧ some k_ ≠ (.slice Ao138 t333.length co138 : Value).ownBlock ∧ some k_ ≠ (v338 : Value).ownBlock ∧ some k_ ≠ (v346 : Value).ownBlock) (Kd.R_keptB (HO344.out) hkp (fun k_ hk_ hs_ => (hk_.2) hs_)) (fun k_ hk_ => ⟨hk_.1.1.1.1.1.1.2, hk_.1.1.1.1.1.2, hk_.1.1.1.1.2, hk_.1.1.1.2, hk_.1.1.2, fun e_ => Or.elim (ho0.1 k_ e_.symm) (fun hs_ => hk_.2.1 hs_) (fun hn_ => Nat.not_le.2 hk_.2.2 hn_)⟩)); have n6_ := Aside0.mk (Kd.R_mono (ok' := fun k_ => some k_ ≠ (.slice Ao133 t324.length co133 : Value).ownBlock ∧ some k_ ≠ (.slice Ao134 t327.length co134 : Value).ownBlock ∧ some k_ ≠ (.slice Ao137 t330.length co137 : Value).ownBlock ∧ some k_ ≠ (.slice Ao138 t333.length co138 : Value).ownBlock ∧ some k_ ≠ (v338 : Value).ownBlock ∧ some k_ ≠ (v343 : Value).ownBlock) ho0 (fun k_ hk_ => ⟨Or.elim hk_ (fun hs_ => fun e_ => (((HO326.out).1 k_ e_.symm).1.2) hs_) (fun hn_ => (Kd.fresh' (Kd.R_lt (by (with_reducible repeat (first | apply Kd.R_alloc | apply Kd.R_drewN | apply Kd.R_drew)); exact HO326.out)) k_ hn_)), Or.elim hk_ (fun hs_ => fun e_ => (((HO329.out).1 k_ e_.symm).1.2) hs_) (fun hn_ => (Kd.fresh' (Kd.R_lt (by (with_reducible repeat (first | apply Kd.R_alloc | apply Kd.R_drewN | apply Kd.R_drew)); exact HO329.out)) k_ hn_)), Or.elim hk_ (fun hs_ => fun e_ => (((HO332.out).1 k_ e_.symm).1.2) hs_) (fun hn_ => (Kd.fresh' (Kd.R_lt (by (with_reducible repeat (first | apply Kd.R_alloc | apply Kd.R_drewN | apply Kd.R_drew)); exact HO332.out)) k_ hn_)), Or.elim hk_ (fun hs_ => fun e_ => (((HO335.out).1 k_ e_.symm).1.2) hs_) (fun hn_ => (Kd.fresh' (Kd.R_lt (by (with_reducible repeat (first | apply Kd.R_alloc | apply Kd.R_drewN | apply Kd.R_drew)); exact HO335.out)) k_ hn_)), Or.elim hk_ (fun hs_ => fun e_ => (((HO339.out).1 k_ e_.symm).1.1.1.1.1) hs_) (fun hn_ => (Kd.fresh' (Kd.R_lt (by (with_reducible repeat (first | apply Kd.R_alloc | apply Kd.R_drewN | apply Kd.R_drew)); exact HO339.out)) k_ hn_)), Or.elim hk_ (fun hs_ => fun e_ => (((HO344.out).1 k_ e_.symm).2) hs_) (fun hn_ => (Kd.fresh' (Kd.R_lt (by (with_reducible repeat (first | apply Kd.R_alloc | apply Kd.R_drewN | apply Kd.R_drew)); exact HO344.out)) k_ hn_))⟩)); have n7_ := Aside0.mk (hb); clear HO326; clear HO329; clear HO332; clear HO335; clear HO339; clear HO344; clear HB; clear HO341; have HO326 := n0_; have HO329 := n1_; have HO332 := n2_; have HO335 := n3_; have HO339 := n4_; have HO344 := n5_; have HO347 := n6_; have HB := n7_; clear n0_ n1_ n2_ n3_ n4_ n5_ n6_ n7_; (try clear hb); (try clear hkp); (try clear ho0); obtain ⟨Ao143, co143, eo143⟩ := Kd.R_slice HO347.out; subst eo143) | ((with_reducible refine gate_callee (f := 44) rfl ?_); refine goesL_ (some 43) rfl rfl Try.func44 (by kernel_rfl) rfl #[.int .i64 a2] rfl (by (try simp only [List.map_toArray, List.map_cons, List.map_nil]); first | done | rfl | (simp only [List.length_drop, List.length_take]; rfl)) ?_; (with_reducible refine (soukref01_bits.calls k a2 t358 _ A126.out).mono ?_); rintro e w144 ⟨v359, rfl, ho0, hb⟩; refine ⟨_, rfl, ?_⟩; have n0_ := Aside0.mk (Kd.R_elder' (by (with_reducible repeat (first | apply Kd.R_alloc | apply Kd.R_drewN | apply Kd.R_drew)); exact HO326.out) (Kd.R_base ho0) hb); have n1_ := Aside0.mk (Kd.R_elder' (by (with_reducible repeat (first | apply Kd.R_alloc | apply Kd.R_drewN | apply Kd.R_drew)); exact HO329.out) (Kd.R_base ho0) hb); have n2_ := Aside0.mk (Kd.R_elder' (by (with_reducible repeat (first | apply Kd.R_alloc | apply Kd.R_drewN | apply Kd.R_drew)); exact HO332.out) (Kd.R_base ho0) hb); have n3_ := Aside0.mk (Kd.R_elder' (by (with_reducible repeat (first | apply Kd.R_alloc | apply Kd.R_drewN | apply Kd.R_drew)); exact HO335.out) (Kd.R_base ho0) hb); have n4_ := Aside0.mk (Kd.R_elder' (by (with_reducible repeat (first | apply Kd.R_alloc | apply Kd.R_drewN | apply Kd.R_drew)); exact HO339.out) (Kd.R_base ho0) hb); have n5_ := Aside0.mk (Kd.R_elder' (by (with_reducible repeat (first | apply Kd.R_alloc | apply Kd.R_drewN | apply Kd.R_drew)); exact HO344.out) (Kd.R_base ho0) hb); have n6_ := Aside0.mk (Kd.R_elder' (by (with_reducible repeat (first | apply Kd.R_alloc | apply Kd.R_drewN | apply Kd.R_drew)); exact HO347.out) (Kd.R_base ho0) hb); have n7_ := Aside0.mk (Kd.R_lower (Kd.R_new' (Kd.R_new' (Kd.R_new' (Kd.R_new' (Kd.R_new' (Kd.R_new' (Kd.R_new' ho0 (Kd.R_lt (by (with_reducible repeat (first | apply Kd.R_alloc | apply Kd.R_drewN | apply Kd.R_drew)); exact HO326.out))) (Kd.R_lt (by (with_reducible repeat (first | apply Kd.R_alloc | apply Kd.R_drewN | apply Kd.R_drew)); exact HO329.out))) (Kd.R_lt (by (with_reducible repeat (first | apply Kd.R_alloc | apply Kd.R_drewN | apply Kd.R_drew)); exact HO332.out))) (Kd.R_lt (by (with_reducible repeat (first | apply Kd.R_alloc | apply Kd.R_drewN | apply Kd.R_drew)); exact HO335.out))) (Kd.R_lt (by (with_reducible repeat (first | apply Kd.R_alloc | apply Kd.R_drewN | apply Kd.R_drew)); exact HO339.out))) (Kd.R_lt (by (with_reducible repeat (first | apply Kd.R_alloc | apply Kd.R_drewN | apply Kd.R_drew)); exact HO344.out))) (Kd.R_lt (by (with_reducible repeat (first | apply Kd.R_alloc | apply Kd.R_drewN | apply Kd.R_drew)); exact HO347.out))) (below_size (by repeat (first | (with_reducible first | exact HB.out | apply below_alloc | apply pw_below_drewN | apply below_drew1) | exact HB.out)))); have n8_ := Aside0.mk (below_step (by repeat (first | (with_reducible first | exact HB.out | apply below_alloc | apply pw_below_drewN | apply below_drew1) | exact HB.out)) hb); clear HO326; clear HO329; clear HO332; clear HO335; clear HO339; clear HO344; clear HO347; clear HB; have HO326 := n0_; have HO329 := n1_; have HO332 := n2_; have HO335 := n3_; have HO339 := n4_; have HO344 := n5_; have HO347 := n6_; have HO360 := n7_; have HB := n8_; clear n0_ n1_ n2_ n3_ n4_ n5_ n6_ n7_ n8_; (try clear hb); (try clear hb2); (try clear hk); (try clear hi); (try clear ho0); obtain ⟨Ao145, co145, eo145⟩ := Kd.R_slice HO344.out; subst eo145; obtain ⟨Ao146, co146, eo146⟩ := Kd.R_slice HO360.out; subst eo146) | ((with_reducible refine gate_callee (f := 47) rfl ?_); refine goesL_ (some 44) rfl rfl Try.func47 (by kernel_rfl) rfl #[.slice Ao145 t342.length co145, .slice Ao146 t358.length co146] rfl (by (try simp only [List.map_toArray, List.map_cons, List.map_nil]); first | done | rfl | (simp only [List.length_drop, List.length_take]; rfl)) ?_; (with_reducible refine (soukref01_less.calls k _ _ t342 _ _ t358 t361 _ ?side1 ?side2 ?side3 ?side4 A127.out).mono ?_); (case side1 => repeat (first | exact (Kd.R_reads' HO344.out).2.2 | (with_reducible refine Kd.C_alloc ?_ _) | (with_reducible refine Kd.C_drewN ?_ _) | (with_reducible refine Kd.C_drew ?_))); (case side2 => exact (Kd.R_reads' HO344.out).2.1); (case side3 => repeat (first | exact (Kd.R_reads' HO360.out).2.2 | (with_reducible refine Kd.C_alloc ?_ _) | (with_reducible refine Kd.C_drewN ?_ _) | (with_reducible refine Kd.C_drew ?_))); (case side4 => exact (Kd.R_reads' HO360.out).2.1); rintro e w147 ⟨rfl, hb⟩; refine ⟨_, rfl, ?_⟩; have n0_ := Aside0.mk (Kd.R_below (by (with_reducible repeat (first | apply Kd.R_alloc | apply Kd.R_drewN | apply Kd.R_drew)); exact HO326.out) hb); have n1_ := Aside0.mk (Kd.R_below (by (with_reducible repeat (first | apply Kd.R_alloc | apply Kd.R_drewN | apply Kd.R_drew)); exact HO329.out) hb); have n2_ := Aside0.mk (Kd.R_below (by (with_reducible repeat (first | apply Kd.R_alloc | apply Kd.R_drewN | apply Kd.R_drew)); exact HO332.out) hb); have n3_ := Aside0.mk (Kd.R_below (by (with_reducible repeat (first | apply Kd.R_alloc | apply Kd.R_drewN | apply Kd.R_drew)); exact HO335.out) hb); have n4_ := Aside0.mk (Kd.R_below (by (with_reducible repeat (first | apply Kd.R_alloc | apply Kd.R_drewN | apply Kd.R_drew)); exact HO339.out) hb); have n5_ := Aside0.mk (Kd.R_below (by (with_reducible repeat (first | apply Kd.R_alloc | apply Kd.R_drewN | apply Kd.R_drew)); exact HO344.out) hb); have n6_ := Aside0.mk (Kd.R_below (by (with_reducible repeat (first | apply Kd.R_alloc | apply Kd.R_drewN | apply Kd.R_drew)); exact HO347.out) hb); have n7_ := Aside0.mk (Kd.R_below (by (with_reducible repeat (first | apply Kd.R_alloc | apply Kd.R_drewN | apply Kd.R_drew)); exact HO360.out) hb); have n8_ := Aside0.mk (below_step (by repeat (first | (with_reducible first | exact HB.out | apply below_alloc | apply pw_below_drewN | apply below_drew1) | exact HB.out)) hb); clear HO326; clear HO329; clear HO332; clear HO335; clear HO339; clear HO344; clear HO347; clear HO360; clear HB; have HO326 := n0_; have HO329 := n1_; have HO332 := n2_; have HO335 := n3_; have HO339 := n4_; have HO344 := n5_; have HO347 := n6_; have HO360 := n7_; have HB := n8_; clear n0_ n1_ n2_ n3_ n4_ n5_ n6_ n7_ n8_; (try clear hb); (try clear hb2); (try clear hk); (try clear hi)) | ((with_reducible refine gate_callee (f := 44) rfl ?_); refine goesL_ (some 46) rfl rfl Try.func44 (by kernel_rfl) rfl #[.int .i64 a2] rfl (by (try simp only [List.map_toArray, List.map_cons, List.map_nil]); first | done | rfl | (simp only [List.length_drop, List.length_take]; rfl)) ?_; (with_reducible refine (soukref01_bits.calls k a2 t362 _ A128.out).mono ?_); rintro e w148 ⟨v363, rfl, ho0, hb⟩; refine ⟨_, rfl, ?_⟩; have n0_ := Aside0.mk (Kd.R_elder' (by (with_reducible repeat (first | apply Kd.R_alloc | apply Kd.R_drewN | apply Kd.R_drew)); exact HO326.out) (Kd.R_base ho0) hb); have n1_ := Aside0.mk (Kd.R_elder' (by (with_reducible repeat (first | apply Kd.R_alloc | apply Kd.R_drewN | apply Kd.R_drew)); exact HO329.out) (Kd.R_base ho0) hb); have n2_ := Aside0.mk (Kd.R_elder' (by (with_reducible repeat (first | apply Kd.R_alloc | apply Kd.R_drewN | apply Kd.R_drew)); exact HO332.out) (Kd.R_base ho0) hb); have n3_ := Aside0.mk (Kd.R_elder' (by (with_reducible repeat (first | apply Kd.R_alloc | apply Kd.R_drewN | apply Kd.R_drew)); exact HO335.out) (Kd.R_base ho0) hb); have n4_ := Aside0.mk (Kd.R_elder' (by (with_reducible repeat (first | apply Kd.R_alloc | apply Kd.R_drewN | apply Kd.R_drew)); exact HO339.out) (Kd.R_base ho0) hb); have n5_ := Aside0.mk (Kd.R_elder' (by (with_reducible repeat (first | apply Kd.R_alloc | apply Kd.R_drewN | apply Kd.R_drew)); exact HO344.out) (Kd.R_base ho0) hb); have n6_ := Aside0.mk (Kd.R_elder' (by (with_reducible repeat (first | apply Kd.R_alloc | apply Kd.R_drewN | apply Kd.R_drew)); exact HO347.out) (Kd.R_base ho0) hb); have n7_ := Aside0.mk (Kd.R_elder' (by (with_reducible repeat (first | apply Kd.R_alloc | apply Kd.R_drewN | apply Kd.R_drew)); exact HO360.out) (Kd.R_base ho0) hb); have n8_ := Aside0.mk (Kd.R_lower (Kd.R_new' (Kd.R_new' (Kd.R_new' (Kd.R_new' (Kd.R_new' (Kd.R_new' (Kd.R_new' (Kd.R_new' ho0 (Kd.R_lt (by (with_reducible repeat (first | apply Kd.R_alloc | apply Kd.R_drewN | apply Kd.R_drew)); exact HO326.out))) (Kd.R_lt (by (with_reducible repeat (first | apply Kd.R_alloc | apply Kd.R_drewN | apply Kd.R_drew)); exact HO329.out))) (Kd.R_lt (by (with_reducible repeat (first | apply Kd.R_alloc | apply Kd.R_drewN | apply Kd.R_drew)); exact HO332.out))) (Kd.R_lt (by (with_reducible repeat (first | apply Kd.R_alloc | apply Kd.R_drewN | apply Kd.R_drew)); exact HO335.out))) (Kd.R_lt (by (with_reducible repeat (first | apply Kd.R_alloc | apply Kd.R_drewN | apply Kd.R_drew)); exact HO339.out))) (Kd.R_lt (by (with_reducible repeat (first | apply Kd.R_alloc | apply Kd.R_drewN | apply Kd.R_drew)); exact HO344.out))) (Kd.R_lt (by (with_reducible repeat (first | apply Kd.R_alloc | apply Kd.R_drewN | apply Kd.R_drew)); exact HO347.out))) (Kd.R_lt (by (with_reducible repeat (first | apply Kd.R_alloc | apply Kd.R_drewN | apply Kd.R_drew)); exact HO360.out))) (below_size (by repeat (first | (with_reducible first | exact HB.out | apply below_alloc | apply pw_below_drewN | apply below_drew1) | exact HB.out)))); have n9_ := Aside0.mk (below_step (by repeat (first | (with_reducible first | exact HB.out | apply below_alloc | apply pw_below_drewN | apply below_drew1) | exact HB.out)) hb); clear HO326; clear HO329; clear HO332; clear HO335; clear HO339; clear HO344; clear HO347; clear HO360; clear HB; have HO326 := n0_; have HO329 := n1_; have HO332 := n2_; have HO335 := n3_; have HO339 := n4_; have HO344 := n5_; have HO347 := n6_; have HO360 := n7_; have HO364 := n8_; have HB := n9_; clear n0_ n1_ n2_ n3_ n4_ n5_ n6_ n7_ n8_ n9_; (try clear hb); (try clear hb2); (try clear hk); (try clear hi); (try clear ho0); obtain ⟨Ao149, co149, eo149⟩ := Kd.R_slice HO364.out; subst eo149) | ((with_reducible refine gate_callee (f := 47) rfl ?_); refine goesL_ (some 48) rfl rfl Try.func47 (by kernel_rfl) rfl #[.slice Ao149 t362.length co149, .slice Ao145 t342.length co145] rfl (by (try simp only [List.map_toArray, List.map_cons, List.map_nil]); first | done | rfl | (simp only [List.length_drop, List.length_take]; rfl)) ?_; (with_reducible refine (soukref01_less.calls k _ _ t362 _ _ t342 t365 _ ?side1 ?side2 ?side3 ?side4 A129.out).mono ?_); (case side1 => repeat (first | exact (Kd.R_reads' HO364.out).2.2 | (with_reducible refine Kd.C_alloc ?_ _) | (with_reducible refine Kd.C_drewN ?_ _) | (with_reducible refine Kd.C_drew ?_))); (case side2 => exact (Kd.R_reads' HO364.out).2.1); (case side3 => repeat (first | exact (Kd.R_reads' HO344.out).2.2 | (with_reducible refine Kd.C_alloc ?_ _) | (with_reducible refine Kd.C_drewN ?_ _) | (with_reducible refine Kd.C_drew ?_))); (case side4 => exact (Kd.R_reads' HO344.out).2.1); rintro e w150 ⟨rfl, hb⟩; refine ⟨_, rfl, ?_⟩; have n0_ := Aside0.mk (Kd.R_below (by (with_reducible repeat (first | apply Kd.R_alloc | apply Kd.R_drewN | apply Kd.R_drew)); exact HO326.out) hb); have n1_ := Aside0.mk (Kd.R_below (by (with_reducible repeat (first | apply Kd.R_alloc | apply Kd.R_drewN | apply Kd.R_drew)); exact HO329.out) hb); have n2_ := Aside0.mk (Kd.R_below (by (with_reducible repeat (first | apply Kd.R_alloc | apply Kd.R_drewN | apply Kd.R_drew)); exact HO332.out) hb); have n3_ := Aside0.mk (Kd.R_below (by (with_reducible repeat (first | apply Kd.R_alloc | apply Kd.R_drewN | apply Kd.R_drew)); exact HO335.out) hb); have n4_ := Aside0.mk (Kd.R_below (by (with_reducible repeat (first | apply Kd.R_alloc | apply Kd.R_drewN | apply Kd.R_drew)); exact HO339.out) hb); have n5_ := Aside0.mk (Kd.R_below (by (with_reducible repeat (first | apply Kd.R_alloc | apply Kd.R_drewN | apply Kd.R_drew)); exact HO344.out) hb); have n6_ := Aside0.mk (Kd.R_below (by (with_reducible repeat (first | apply Kd.R_alloc | apply Kd.R_drewN | apply Kd.R_drew)); exact HO347.out) hb); have n7_ := Aside0.mk (Kd.R_below (by (with_reducible repeat (first | apply Kd.R_alloc | apply Kd.R_drewN | apply Kd.R_drew)); exact HO360.out) hb); have n8_ := Aside0.mk (Kd.R_below (by (with_reducible repeat (first | apply Kd.R_alloc | apply Kd.R_drewN | apply Kd.R_drew)); exact HO364.out) hb); have n9_ := Aside0.mk (below_step (by repeat (first | (with_reducible first | exact HB.out | apply below_alloc | apply pw_below_drewN | apply below_drew1) | exact HB.out)) hb); clear HO326; clear HO329; clear HO332; clear HO335; clear HO339; clear HO344; clear HO347; clear HO360; clear HO364; clear HB; have HO326 := n0_; have HO329 := n1_; have HO332 := n2_; have HO335 := n3_; have HO339 := n4_; have HO344 := n5_; have HO347 := n6_; have HO360 := n7_; have HO364 := n8_; have HB := n9_; clear n0_ n1_ n2_ n3_ n4_ n5_ n6_ n7_ n8_ n9_; (try clear hb); (try clear hb2); (try clear hk); (try clear hi)))
   (try simp only [Act.put, List.setIfInBounds_toArray, List.set_cons_zero, List.set_cons_succ])
   go_cut [17] (fun v17 wc => ∃ (kq : Nat) (x17_129 : Bool), v17 = .bool x17_129 ∧ Aside0 (soukref01_MulDiv.j3 kq a3 false t336 false t361 t365 x17_129 = some (r1, r2)) ∧ Aside0 (kq ≤ k) ∧ Aside0 (Kd.R Kd.bool 4 wc w.heap.size (fun _ => True) v338 t336) ∧ Aside0 (Below w.heap.size w wc))
   case first =>
    have H := HC130.out
    clear HC130
    by_cases c151 : a3 = 0
    ·rw [if_pos c151] at H
     have c151b0 : (a3 == 0) = true := beq_iff_eq.mpr c151
     have c151b1 : (a3 != 0) = false := bne_eq_false_iff_eq.mpr c151
     clear c151
     (first | rw [c151b0] | (simp only [i64_w, i32_w]; rw [c151b0]) | skip)
     by_cases c152 : a3 = 1
     ·rw [if_pos c152] at H
      have c152b0 : (a3 == 1) = true := beq_iff_eq.mpr c152
      have c152b1 : (a3 != 1) = false := bne_eq_false_iff_eq.mpr c152
      clear c152
      have H' := Aside0.mk H
      clear H
      go_wp2
      go_meet
      case rel => exact ⟨_, (true), (by first | rfl | (simp; done) | (simp [*]; done)), H', ⟨by first | omega | exact Nat.le_refl _⟩, ⟨by (with_reducible repeat (first | apply Kd.R_alloc | apply Kd.R_drewN | apply Kd.R_drew)); exact Kd.R_mono HO339.out (fun _ hk => trivial)⟩, ⟨by repeat (first | (with_reducible first | exact HB.out | apply below_alloc | apply pw_below_drewN | apply below_drew1) | exact HB.out)⟩⟩
     ·rw [if_neg c152] at H
      have c152b0 : (a3 == 1) = false := beq_eq_false_iff_ne.mpr c152
      have c152b1 : (a3 != 1) = true := bne_iff_ne.mpr c152
      by_cases c153 : a3 = 2
      ·rw [if_pos c153] at H
       have c153b0 : (a3 == 2) = true := beq_iff_eq.mpr c153
       have c153b1 : (a3 != 2) = false := bne_eq_false_iff_eq.mpr c153
       clear c153
       have H' := Aside0.mk H
       clear H
       go_wp2
       go_meet
       case rel => exact ⟨_, (t365), (by first | rfl | (simp; done) | (simp [*]; done)), H', ⟨by first | omega | exact Nat.le_refl _⟩, ⟨by (with_reducible repeat (first | apply Kd.R_alloc | apply Kd.R_drewN | apply Kd.R_drew)); exact Kd.R_mono HO339.out (fun _ hk => trivial)⟩, ⟨by repeat (first | (with_reducible first | exact HB.out | apply below_alloc | apply pw_below_drewN | apply below_drew1) | exact HB.out)⟩⟩
      ·rw [if_neg c153] at H
       have c153b0 : (a3 == 2) = false := beq_eq_false_iff_ne.mpr c153
       have c153b1 : (a3 != 2) = true := bne_iff_ne.mpr c153
       have H' := Aside0.mk H
       clear H
       go_wp2
       go_meet
       case rel => exact ⟨_, (false), (by first | rfl | (simp; done) | (simp [*]; done)), H', ⟨by first | omega | exact Nat.le_refl _⟩, ⟨by (with_reducible repeat (first | apply Kd.R_alloc | apply Kd.R_drewN | apply Kd.R_drew)); exact Kd.R_mono HO339.out (fun _ hk => trivial)⟩, ⟨by repeat (first | (with_reducible first | exact HB.out | apply below_alloc | apply pw_below_drewN | apply below_drew1) | exact HB.out)⟩⟩
    ·rw [if_neg c151] at H
     have c151b0 : (a3 == 0) = false := beq_eq_false_iff_ne.mpr c151
     have c151b1 : (a3 != 0) = true := bne_iff_ne.mpr c151
     (first | rw [c151b0] | (simp only [i64_w, i32_w]; rw [c151b0]) | skip)
     by_cases c154 : a3 = 1
     ·rw [if_pos c154] at H
      have c154b0 : (a3 == 1) = true := beq_iff_eq.mpr c154
      have c154b1 : (a3 != 1) = false := bne_eq_false_iff_eq.mpr c154
      clear c154
      have H' := Aside0.mk H
      clear H
      go_wp2
      go_meet
      case rel => exact ⟨_, (true), (by first | rfl | (simp; done) | (simp [*]; done)), H', ⟨by first | omega | exact Nat.le_refl _⟩, ⟨by (with_reducible repeat (first | apply Kd.R_alloc | apply Kd.R_drewN | apply Kd.R_drew)); exact Kd.R_mono HO339.out (fun _ hk => trivial)⟩, ⟨by repeat (first | (with_reducible first | exact HB.out | apply below_alloc | apply pw_below_drewN | apply below_drew1) | exact HB.out)⟩⟩
     ·rw [if_neg c154] at H
      have c154b0 : (a3 == 1) = false := beq_eq_false_iff_ne.mpr c154
      have c154b1 : (a3 != 1) = true := bne_iff_ne.mpr c154
      by_cases c155 : a3 = 2
      ·rw [if_pos c155] at H
       have c155b0 : (a3 == 2) = true := beq_iff_eq.mpr c155
       have c155b1 : (a3 != 2) = false := bne_eq_false_iff_eq.mpr c155
       clear c155
       have H' := Aside0.mk H
       clear H
       go_wp2
       go_meet
       case rel => exact ⟨_, (t365), (by first | rfl | (simp; done) | (simp [*]; done)), H', ⟨by first | omega | exact Nat.le_refl _⟩, ⟨by (with_reducible repeat (first | apply Kd.R_alloc | apply Kd.R_drewN | apply Kd.R_drew)); exact Kd.R_mono HO339.out (fun _ hk => trivial)⟩, ⟨by repeat (first | (with_reducible first | exact HB.out | apply below_alloc | apply pw_below_drewN | apply below_drew1) | exact HB.out)⟩⟩
      ·rw [if_neg c155] at H
       have c155b0 : (a3 == 2) = false := beq_eq_false_iff_ne.mpr c155
       have c155b1 : (a3 != 2) = true := bne_iff_ne.mpr c155
       have H' := Aside0.mk H
       clear H
       go_wp2
       go_meet
       case rel => exact ⟨_, (false), (by first | rfl | (simp; done) | (simp [*]; done)), H', ⟨by first | omega | exact Nat.le_refl _⟩, ⟨by (with_reducible repeat (first | apply Kd.R_alloc | apply Kd.R_drewN | apply Kd.R_drew)); exact Kd.R_mono HO339.out (fun _ hk => trivial)⟩, ⟨by repeat (first | (with_reducible first | exact HB.out | apply below_alloc | apply pw_below_drewN | apply below_drew1) | exact HB.out)⟩⟩
   case rest =>
    clear HC130
    try clear c1
    try clear p2
    try clear c4
    try clear c5
    try clear c5b0
    try clear c5b1
    try clear c5b2
    try clear c6
    try clear c7
    try clear c9
    try clear c13
    try clear c13b0
    try clear c13b1
    try clear c13b2
    try clear c15
    try clear c19
    try clear c42
    try clear c43
    try clear c44
    try clear c45
    try clear c46
    try clear c47
    try clear c49
    try clear c66
    try clear c66b0
    try clear c66b1
    try clear c67
    try clear c67b0
    try clear c67b1
    try clear c68
    try clear c68b0
    try clear c68b1
    try clear c69
    try clear c69b0
    try clear c69b1
    try clear c71
    try clear c71b0
    try clear c71b1
    try clear c72
    try clear c73
    try clear c77
    try clear c78
    try clear c98
    try clear c98b0
    try clear c98b1
    try clear c98b2
    try clear c151
    try clear c151b0
    try clear c151b1
    try clear c152
    try clear c152b0
    try clear c152b1
    try clear c153
    try clear c153b0
    try clear c153b1
    try clear c154
    try clear c154b0
    try clear c154b1
    try clear c155
    try clear c155b0
    try clear c155b1
    try clear p2
    obtain ⟨kq, x17_129, rfl, HA, HJ129, HO_11, HB⟩ := hcut
    cases kq with
    | zero => exact absurd HA.out (by simp [soukref01_MulDiv.j3])
    | succ kj129 =>
     have H := HA.out
     clear HA
     simp only [soukref01_MulDiv.j3] at H
     have HC156 := Aside0.mk H
     clear H
     go_upto_region 8 with (fail)
     go_cut [90] (fun v90 wc => ∃ (kq : Nat) (x90_155 : Bool), v90 = .bool x90_155 ∧ Aside0 (soukref01_MulDiv.j4 kq false t336 x17_129 x90_155 = some (r1, r2)) ∧ Aside0 (kq ≤ kj129) ∧ Aside0 (Kd.R Kd.bool 4 wc w.heap.size (fun _ => True) v338 t336) ∧ Aside0 (Below w.heap.size w wc))
     case first =>
      have H := HC156.out
      clear HC156
      have H1 : (if a3 = 2 then (if t361 = true then (soukref01_MulDiv.j4 kj129 false t336 x17_129 false) else (if t365 = true then (soukref01_MulDiv.j4 kj129 false t336 x17_129 false) else ((soukref01_Wide_at.f t336 0).bind fun t366 => (soukref01_MulDiv.j4 kj129 false t336 x17_129 t366)))) else (soukref01_MulDiv.j4 kj129 false t336 x17_129 false)) = some (r1, r2) := by first | (rw [if_neg (show ¬ (false = true) by decide)] at H; exact H) | (rw [if_neg (fun h => h)] at H; exact H)
      clear H
      have H := H1
      clear H1
      by_cases c157 : a3 = 2
      ·rw [if_pos c157] at H
       have c157b0 : (a3 == 2) = true := beq_iff_eq.mpr c157
       have c157b1 : (a3 != 2) = false := bne_eq_false_iff_eq.mpr c157
       clear c157
       (first | rw [c157b0] | (simp only [i64_w, i32_w]; rw [c157b0]) | skip)
       by_cases c158 : t361 = true
       ·subst c158
        have H1 : (soukref01_MulDiv.j4 kj129 false t336 x17_129 false) = some (r1, r2) := by rw [if_pos rfl] at H; exact H
        clear H
        have H := H1
        clear H1
        have H' := Aside0.mk H
        clear H
        go_wp2
        go_meet
        case rel => exact ⟨_, (false), (by first | rfl | (simp; done) | (simp [*]; done)), H', ⟨by have := HJ129.out; first | omega | exact Nat.le_refl _⟩, ⟨by (with_reducible repeat (first | apply Kd.R_alloc | apply Kd.R_drewN | apply Kd.R_drew)); exact HO_11.out⟩, ⟨by repeat (first | (with_reducible first | exact HB.out | apply below_alloc | apply pw_below_drewN | apply below_drew1) | exact HB.out)⟩⟩
       ·replace c158 := Bool.eq_false_iff.mpr c158
        subst c158
        have H1 : (if t365 = true then (soukref01_MulDiv.j4 kj129 false t336 x17_129 false) else ((soukref01_Wide_at.f t336 0).bind fun t366 => (soukref01_MulDiv.j4 kj129 false t336 x17_129 t366))) = some (r1, r2) := by rw [if_neg (show ¬ (false = true) by decide)] at H; exact H
        clear H
        have H := H1
        clear H1
        by_cases c159 : t365 = true
        ·subst c159
         have H1 : (soukref01_MulDiv.j4 kj129 false t336 x17_129 false) = some (r1, r2) := by rw [if_pos rfl] at H; exact H
         clear H
         have H := H1
         clear H1
         have H' := Aside0.mk H
         clear H
         go_wp2
         go_meet
         case rel => exact ⟨_, (false), (by first | rfl | (simp; done) | (simp [*]; done)), H', ⟨by have := HJ129.out; first | omega | exact Nat.le_refl _⟩, ⟨by (with_reducible repeat (first | apply Kd.R_alloc | apply Kd.R_drewN | apply Kd.R_drew)); exact HO_11.out⟩, ⟨by repeat (first | (with_reducible first | exact HB.out | apply below_alloc | apply pw_below_drewN | apply below_drew1) | exact HB.out)⟩⟩
        ·replace c159 := Bool.eq_false_iff.mpr c159
         subst c159
         have H1 : ((soukref01_Wide_at.f t336 0).bind fun t366 => (soukref01_MulDiv.j4 kj129 false t336 x17_129 t366)) = some (r1, r2) := by rw [if_neg (show ¬ (false = true) by decide)] at H; exact H
         clear H
         have H := H1
         clear H1
         replace H := Option.bind_eq_some_iff.mp H
         obtain ⟨t366, A1600, H⟩ := H
         replace H : (soukref01_MulDiv.j4 kj129 false t336 x17_129 t366) = some (r1, r2) := H
         have A160 := Aside0.mk A1600
         clear A1600
         have H' := Aside0.mk H
         clear H
         obtain ⟨Ao161, co161, eo161⟩ := Kd.R_slice HO_11.out
         subst eo161
         go_wp2_with (first | (go_at_call 48; (with_reducible refine (soukref01_Wide_at.calls _ _ t336 0 t366 _ ?side1 ?side2 A160.out).mono ?_); (case side1 => repeat (first | exact (Kd.R_reads' HO_11.out).2.2 | (with_reducible refine Kd.C_alloc ?_ _) | (with_reducible refine Kd.C_drewN ?_ _) | (with_reducible refine Kd.C_drew ?_))); (case side2 => exact (Kd.R_reads' HO_11.out).2.1); rintro e w' ⟨rfl, ⟨nd, rfl⟩⟩))
         go_meet
         case rel => exact ⟨_, (t366), (by first | rfl | (simp; done) | (simp [*]; done)), H', ⟨by have := HJ129.out; first | omega | exact Nat.le_refl _⟩, ⟨by (with_reducible repeat (first | apply Kd.R_alloc | apply Kd.R_drewN | apply Kd.R_drew)); exact HO_11.out⟩, ⟨by repeat (first | (with_reducible first | exact HB.out | apply below_alloc | apply pw_below_drewN | apply below_drew1) | exact HB.out)⟩⟩
      ·rw [if_neg c157] at H
       have c157b0 : (a3 == 2) = false := beq_eq_false_iff_ne.mpr c157
       have c157b1 : (a3 != 2) = true := bne_iff_ne.mpr c157
       (first | rw [c157b0] | (simp only [i64_w, i32_w]; rw [c157b0]) | skip)
       have H' := Aside0.mk H
       clear H
       go_wp2
       go_meet
       case rel => exact ⟨_, (false), (by first | rfl | (simp; done) | (simp [*]; done)), H', ⟨by have := HJ129.out; first | omega | exact Nat.le_refl _⟩, ⟨by (with_reducible repeat (first | apply Kd.R_alloc | apply Kd.R_drewN | apply Kd.R_drew)); exact HO_11.out⟩, ⟨by repeat (first | (with_reducible first | exact HB.out | apply below_alloc | apply pw_below_drewN | apply below_drew1) | exact HB.out)⟩⟩
     case rest =>
      clear HC156
      try clear c1
      try clear p2
      try clear c4
      try clear c5
      try clear c5b0
      try clear c5b1
      try clear c5b2
      try clear c6
      try clear c7
      try clear c9
      try clear c13
      try clear c13b0
      try clear c13b1
      try clear c13b2
      try clear c15
      try clear c19
      try clear c42
      try clear c43
      try clear c44
      try clear c45
      try clear c46
      try clear c47
      try clear c49
      try clear c66
      try clear c66b0
      try clear c66b1
      try clear c67
      try clear c67b0
      try clear c67b1
      try clear c68
      try clear c68b0
      try clear c68b1
      try clear c69
      try clear c69b0
      try clear c69b1
      try clear c71
      try clear c71b0
      try clear c71b1
      try clear c72
      try clear c73
      try clear c77
      try clear c78
      try clear c98
      try clear c98b0
      try clear c98b1
      try clear c98b2
      try clear c151
      try clear c151b0
      try clear c151b1
      try clear c152
      try clear c152b0
      try clear c152b1
      try clear c153
      try clear c153b0
      try clear c153b1
      try clear c154
      try clear c154b0
      try clear c154b1
      try clear c155
      try clear c155b0
      try clear c155b1
      try clear c157
      try clear c157b0
      try clear c157b1
      try clear c158
      try clear c159
      try clear p2
      obtain ⟨kq, x90_155, rfl, HA, HJ155, HO_11, HB⟩ := hcut
      cases kq with
      | zero => exact absurd HA.out (by simp [soukref01_MulDiv.j4])
      | succ kj155 =>
       have H := HA.out
       clear HA
       simp only [soukref01_MulDiv.j4] at H
       have HC162 := Aside0.mk H
       clear H
       go_upto_if 90 with (fail)
       go_cut [17] (fun v17 wc => ∃ (kq : Nat) (x17_161 : Bool), v17 = .bool x17_161 ∧ Aside0 (soukref01_MulDiv.j5 kq false t336 x17_161 = some (r1, r2)) ∧ Aside0 (kq ≤ kj155) ∧ Aside0 (Kd.R Kd.bool 4 wc w.heap.size (fun _ => True) v338 t336) ∧ Aside0 (Below w.heap.size w wc))
       case first =>
        have H := HC162.out
        clear HC162
        by_cases c163 : x90_155 = true
        ·subst c163
         have H1 : (soukref01_MulDiv.j5 kj155 false t336 true) = some (r1, r2) := by rw [if_pos rfl] at H; exact H
         clear H
         have H := H1
         clear H1
         have H' := Aside0.mk H
         clear H
         go_wp2
         go_meet
         case rel => exact ⟨_, (true), (by first | rfl | (simp; done) | (simp [*]; done)), H', ⟨by have := HJ129.out; have := HJ155.out; first | omega | exact Nat.le_refl _⟩, ⟨by (with_reducible repeat (first | apply Kd.R_alloc | apply Kd.R_drewN | apply Kd.R_drew)); exact HO_11.out⟩, ⟨by repeat (first | (with_reducible first | exact HB.out | apply below_alloc | apply pw_below_drewN | apply below_drew1) | exact HB.out)⟩⟩
        ·replace c163 := Bool.eq_false_iff.mpr c163
         subst c163
         have H1 : (soukref01_MulDiv.j5 kj155 false t336 x17_129) = some (r1, r2) := by rw [if_neg (show ¬ (false = true) by decide)] at H; exact H
         clear H
         have H := H1
         clear H1
         have H' := Aside0.mk H
         clear H
         go_wp2
         go_meet
         case rel => exact ⟨_, (x17_129), (by first | rfl | (simp; done) | (simp [*]; done)), H', ⟨by have := HJ129.out; have := HJ155.out; first | omega | exact Nat.le_refl _⟩, ⟨by (with_reducible repeat (first | apply Kd.R_alloc | apply Kd.R_drewN | apply Kd.R_drew)); exact HO_11.out⟩, ⟨by repeat (first | (with_reducible first | exact HB.out | apply below_alloc | apply pw_below_drewN | apply below_drew1) | exact HB.out)⟩⟩
       case rest =>
        clear HC162
        try clear c1
        try clear p2
        try clear c4
        try clear c5
        try clear c5b0
        try clear c5b1
        try clear c5b2
        try clear c6
        try clear c7
        try clear c9
        try clear c13
        try clear c13b0
        try clear c13b1
        try clear c13b2
        try clear c15
        try clear c16
        try clear c19
        try clear c42
        try clear c43
        try clear c44
        try clear c45
        try clear c46
        try clear c47
        try clear c49
        try clear c66
        try clear c66b0
        try clear c66b1
        try clear c67
        try clear c67b0
        try clear c67b1
        try clear c68
        try clear c68b0
        try clear c68b1
        try clear c69
        try clear c69b0
        try clear c69b1
        try clear c71
        try clear c71b0
        try clear c71b1
        try clear c72
        try clear c73
        try clear c77
        try clear c78
        try clear c98
        try clear c98b0
        try clear c98b1
        try clear c98b2
        try clear c151
        try clear c151b0
        try clear c151b1
        try clear c152
        try clear c152b0
        try clear c152b1
        try clear c153
        try clear c153b0
        try clear c153b1
        try clear c154
        try clear c154b0
        try clear c154b1
        try clear c155
        try clear c155b0
        try clear c155b1
        try clear c157
        try clear c157b0
        try clear c157b1
        try clear c158
        try clear c159
        try clear c163
        try clear p2
        obtain ⟨kq, x17_161, rfl, HA, HJ161, HO_11, HB⟩ := hcut
        cases kq with
        | zero => exact absurd HA.out (by simp [soukref01_MulDiv.j5])
        | succ kj161 =>
         have H := HA.out
         clear HA
         simp only [soukref01_MulDiv.j5] at H
         by_cases c164 : x17_161 = true
         ·subst c164
          have H1 : ((soukref01_Plus.f kj161 t336 (([true] : List Bool))).bind fun t370 => ((soukref01_value.f kj161 t370 false).bind fun bt373 => (some (bt373.1, bt373.2)))) = some (r1, r2) := by rw [if_pos rfl] at H; exact H
          clear H
          have H := H1
          clear H1
          obtain ⟨y367, hy367⟩ : ∃ y_ : List Bool, y_ = (([true] : List Bool)) := ⟨_, rfl⟩
          replace H : ((soukref01_Plus.f kj161 t336 y367).bind fun t370 => ((soukref01_value.f kj161 t370 false).bind fun bt373 => (some (bt373.1, bt373.2)))) = some (r1, r2) := by first | (rw [hy367]; with_reducible exact H) | (have H2_ := (Option.bind_some _ _).symm.trans H; rw [hy367]; with_reducible exact H2_) | (have H2_ := (Option.bind_some _ _).symm.trans H; with_reducible exact H2_) | with_reducible exact H | (rw [hy367]; exact H) | exact H
          have Ny367 := Aside0.mk hy367
          clear hy367
          replace H := Option.bind_eq_some_iff.mp H
          obtain ⟨t370, A1650, H⟩ := H
          replace H : ((soukref01_value.f kj161 t370 false).bind fun bt373 => (some (bt373.1, bt373.2))) = some (r1, r2) := H
          have A165 := Aside0.mk A1650
          clear A1650
          replace H := Option.bind_eq_some_iff.mp H
          obtain ⟨⟨t373, t374⟩, A1660, H⟩ := H
          replace H : (some (t373, t374)) = some (r1, r2) := H
          have A166 := Aside0.mk A1660
          clear A1660
          simp only [Option.some.injEq, Prod.mk.injEq] at H
          obtain ⟨rfl, rfl⟩ := H
          go_wp2_with (first | ((with_reducible refine gate_dst (N := 93) rfl ?_); refine Kd.R_lit Kd.bool _ 4 ?hg (N := 93) ?hd (xs := ([true] : List Bool)) (inner := [.bool true]) (ok := fun _ => True) (okp := fun _ => True) ?hr ?hp (fun _ hk => hk) trivial (Below.refl _ _) (Nat.le_refl _) (by simp) ?_; (case hd => rfl); (case hg => rfl); (case hr => first | (go_simp; done) | (go_simp; rfl)); (case hp => exact (Reps.one (show Kd.M Kd.bool _ _ _ true [.bool true] from rfl) (Reps.none _ _))); intro v368 w167 ho168 hb hg_ hnew_; clear hg_ hnew_; (first | rw [← Ny367.out] at ho168 | (simp only [Int.reduceToNat] at ho168; rw [← Ny367.out] at ho168)); have n0_ := Aside0.mk (Kd.R_elder' (by (with_reducible repeat (first | apply Kd.R_alloc | apply Kd.R_drewN | apply Kd.R_drew)); exact HO_11.out) (Kd.R_base ho168) hb); have n1_ := Aside0.mk (Kd.R_lower (Kd.R_new' ho168 (Kd.R_lt (by (with_reducible repeat (first | apply Kd.R_alloc | apply Kd.R_drewN | apply Kd.R_drew)); exact HO_11.out))) (below_size (by repeat (first | (with_reducible first | exact HB.out | apply below_alloc | apply pw_below_drewN | apply below_drew1) | exact HB.out)))); have n2_ := Aside0.mk (below_step (by repeat (first | (with_reducible first | exact HB.out | apply below_alloc | apply pw_below_drewN | apply below_drew1) | exact HB.out)) hb); clear HO_11; clear HB; have HO_11 := n0_; have HO369 := n1_; have HB := n2_; clear n0_ n1_ n2_; clear hb ho168; obtain ⟨Ao169, co169, eo169⟩ := Kd.R_slice HO_11.out; subst eo169; obtain ⟨Ao170, co170, eo170⟩ := Kd.R_slice HO369.out; subst eo170) | ((with_reducible refine gate_callee (f := 45) rfl ?_); refine goesL_ (some 94) rfl rfl Try.func45 (by kernel_rfl) rfl #[.slice Ao169 t336.length co169, .slice Ao170 y367.length co170] rfl (by (try simp only [List.map_toArray, List.map_cons, List.map_nil]); first | done | rfl | (simp only [List.length_drop, List.length_take]; rfl)) ?_; (with_reducible refine (soukref01_Plus.calls kj161 _ _ t336 _ _ y367 t370 _ ?side1 ?side2 ?side3 ?side4 A165.out).mono ?_); (case side1 => repeat (first | exact (Kd.R_reads' HO_11.out).2.2 | (with_reducible refine Kd.C_alloc ?_ _) | (with_reducible refine Kd.C_drewN ?_ _) | (with_reducible refine Kd.C_drew ?_))); (case side2 => exact (Kd.R_reads' HO_11.out).2.1); (case side3 => repeat (first | exact (Kd.R_reads' HO369.out).2.2 | (with_reducible refine Kd.C_alloc ?_ _) | (with_reducible refine Kd.C_drewN ?_ _) | (with_reducible refine Kd.C_drew ?_))); (case side4 => exact (Kd.R_reads' HO369.out).2.1); rintro e w171 ⟨v371, rfl, ho0, hb⟩; refine ⟨_, rfl, ?_⟩; have n0_ := Aside0.mk (Kd.R_elder' (by (with_reducible repeat (first | apply Kd.R_alloc | apply Kd.R_drewN | apply Kd.R_drew)); exact HO_11.out) (Kd.R_base ho0) hb); have n1_ := Aside0.mk (Kd.R_elder' (by (with_reducible repeat (first | apply Kd.R_alloc | apply Kd.R_drewN | apply Kd.R_drew)); exact HO369.out) (Kd.R_base ho0) hb); have n2_ := Aside0.mk (Kd.R_lower (Kd.R_new' (Kd.R_new' ho0 (Kd.R_lt (by (with_reducible repeat (first | apply Kd.R_alloc | apply Kd.R_drewN | apply Kd.R_drew)); exact HO_11.out))) (Kd.R_lt (by (with_reducible repeat (first | apply Kd.R_alloc | apply Kd.R_drewN | apply Kd.R_drew)); exact HO369.out))) (below_size (by repeat (first | (with_reducible first | exact HB.out | apply below_alloc | apply pw_below_drewN | apply below_drew1) | exact HB.out)))); have n3_ := Aside0.mk (below_step (by repeat (first | (with_reducible first | exact HB.out | apply below_alloc | apply pw_below_drewN | apply below_drew1) | exact HB.out)) hb); clear HO_11; clear HO369; clear HB; have HO_11 := n0_; have HO369 := n1_; have HO372 := n2_; have HB := n3_; clear n0_ n1_ n2_ n3_; (try clear hb); (try clear hb2); (try clear hk); (try clear hi); (try clear ho0); obtain ⟨Ao172, co172, eo172⟩ := Kd.R_slice HO372.out; subst eo172) | ((with_reducible refine gate_callee (f := 49) rfl ?_); refine goesL_ (some 97) rfl rfl Try.func49 (by kernel_rfl) rfl #[.slice Ao172 t370.length co172, .bool false] rfl (by (try simp only [List.map_toArray, List.map_cons, List.map_nil]); first | done | rfl | (simp only [List.length_drop, List.length_take]; rfl)) ?_; (with_reducible refine (soukref01_value.calls kj161 (fun k_ => some k_ = (.slice Ao172 t370.length co172 : Value).ownBlock) (.slice Ao172 t370.length co172) t370 false t373 t374 w _ ?side1 ?side2 A166.out).mono ?_); (case side1 => repeat (first | (with_reducible first | exact HB.out | apply below_alloc | apply pw_below_drewN | apply below_drew1) | exact HB.out)); (case side2 => exact Kd.R_tight rfl HO372.out); rintro e w173 ⟨rfl, hb, hkp⟩; refine ⟨_, rfl, ?_⟩; have n0_ := Aside0.mk (Kd.R_mono (ok' := fun k_ => some k_ ≠ (.slice Ao170 y367.length co170 : Value).ownBlock) (Kd.R_keptB (HO_11.out) hkp (fun k_ hk_ hs_ => (hk_.2) hs_)) (fun k_ hk_ => hk_.1.1.2)); have n1_ := Aside0.mk (Kd.R_mono (ok' := fun k_ => some k_ ≠ (.slice Ao169 t336.length co169 : Value).ownBlock) (Kd.R_keptB (HO369.out) hkp (fun k_ hk_ hs_ => (hk_.2) hs_)) (fun k_ hk_ => hk_.1.1.2)); have n2_ := Aside0.mk (hb); clear HO_11; clear HO369; clear HB; clear HO372; have HO_11 := n0_; have HO369 := n1_; have HB := n2_; clear n0_ n1_ n2_; (try clear hb); (try clear hkp)))
          go_ret2
          exact ⟨by first | rfl | (simp [errW_none, errW_some] <;> rfl) | (simp [*, errW_none, errW_some] <;> rfl), by repeat (first | (with_reducible first | exact HB.out | apply below_alloc | apply pw_below_drewN | apply below_drew1) | exact HB.out)⟩
         ·replace c164 := Bool.eq_false_iff.mpr c164
          subst c164
          have H1 : ((soukref01_value.f kj161 t336 false).bind fun bt375 => (some (bt375.1, bt375.2))) = some (r1, r2) := by rw [if_neg (show ¬ (false = true) by decide)] at H; exact H
          clear H
          have H := H1
          clear H1
          replace H := Option.bind_eq_some_iff.mp H
          obtain ⟨⟨t375, t376⟩, A1740, H⟩ := H
          replace H : (some (t375, t376)) = some (r1, r2) := H
          have A174 := Aside0.mk A1740
          clear A1740
          simp only [Option.some.injEq, Prod.mk.injEq] at H
          obtain ⟨rfl, rfl⟩ := H
          obtain ⟨Ao175, co175, eo175⟩ := Kd.R_slice HO_11.out
          subst eo175
          go_wp2_with (first | ((with_reducible refine gate_callee (f := 49) rfl ?_); refine goesL_ (some 97) rfl rfl Try.func49 (by kernel_rfl) rfl #[.slice Ao175 t336.length co175, .bool false] rfl (by (try simp only [List.map_toArray, List.map_cons, List.map_nil]); first | done | rfl | (simp only [List.length_drop, List.length_take]; rfl)) ?_; (with_reducible refine (soukref01_value.calls kj161 (fun k_ => some k_ = (.slice Ao175 t336.length co175 : Value).ownBlock) (.slice Ao175 t336.length co175) t336 false t375 t376 w _ ?side1 ?side2 A174.out).mono ?_); (case side1 => repeat (first | (with_reducible first | exact HB.out | apply below_alloc | apply pw_below_drewN | apply below_drew1) | exact HB.out)); (case side2 => exact Kd.R_tight rfl HO_11.out); rintro e w176 ⟨rfl, hb, hkp⟩; refine ⟨_, rfl, ?_⟩; have n0_ := Aside0.mk (hb); clear HB; clear HO_11; have HB := n0_; clear n0_; (try clear hb); (try clear hkp)))
          go_ret2
          exact ⟨by first | rfl | (simp [errW_none, errW_some] <;> rfl) | (simp [*, errW_none, errW_some] <;> rfl), by repeat (first | (with_reducible first | exact HB.out | apply below_alloc | apply pw_below_drewN | apply below_drew1) | exact HB.out)⟩
end Go.Proofs.Ytncnhhnbjmpomaa.Q
namespace Go.Proofs.Ytncnhhnbjmpomaa
open Go.RowKit Go.Proofs.Ytncnhhnbjmpomaa.Q Go.Sort
set_option linter.unusedVariables false
set_option linter.unusedSimpArgs false
section
variable {α : Type} [Inhabited α] {lt lt' : α → α → Bool}
theorem insInner_size (a : Nat) : ∀ (j : Nat) (d : Array α), (insInner lt a j d).size = d.size
  | 0, d => rfl
  | j + 1, d => by
    unfold insInner
    split
    · rw [insInner_size a j, swp_size]
    · rfl
theorem insInner_congr (a : Nat) : ∀ (j : Nat) (d : Array α), j < d.size → (∀ q, q < j → lt d[j]! d[q]! = lt' d[j]! d[q]!) → insInner lt a j d = insInner lt' a j d
  | 0, d, _, _ => rfl
  | j + 1, d, hj, h => by
    unfold insInner
    rw [h j (by omega)]
    split
    · refine insInner_congr a j _ (by rw [swp_size]; omega) fun q hq => ?_
      have g := swp_get d hj (show j < d.size by omega)
      rw [g, g]
      simp only [if_true, show q ≠ j by omega, show q ≠ j + 1 by omega, show ¬ (j = j + 1) by omega, if_false]
      exact h q (by omega)
    · rfl
theorem insInner_all (a i : Nat) (P : α → Prop) : ∀ (j : Nat) (d : Array α), j ≤ i → i < d.size → (∀ q, q ≤ i → P d[q]!) → ∀ q, q ≤ i → P (insInner lt a j d)[q]!
  | 0, d, _, _, h => h
  | j + 1, d, hj, hi, h => by
    unfold insInner
    split
    · refine insInner_all a i P j _ (by omega) (by rw [swp_size]; exact hi) fun q hq => ?_
      have g := swp_get d (show j + 1 < d.size by omega) (show j < d.size by omega)
      rw [g]
      split
      · exact h _ (by omega)
      · split
        · exact h _ (by omega)
        · exact h q hq
    · exact h
theorem insInner_out (a : Nat) : ∀ (j : Nat) (d : Array α), j < d.size → ∀ q, j < q → (insInner lt a j d)[q]! = d[q]!
  | 0, d, _, q, _ => rfl
  | j + 1, d, hj, q, hq => by
    unfold insInner
    split
    · rw [insInner_out a j _ (by rw [swp_size]; omega) q (by omega)]
      have g := swp_get d hj (show j < d.size by omega)
      rw [g]
      simp only [show q ≠ j by omega, show q ≠ j + 1 by omega, if_false]
    · rfl
theorem insOuter_congr (a b : Nat) : ∀ (n i : Nat) (d : Array α), b - i = n → b ≤ d.size → (∀ p q, i ≤ p → q < p → p < b → lt d[p]! d[q]! = lt' d[p]! d[q]!) → insOuter lt a b i d = insOuter lt' a b i d
  | 0, i, d, hn, hb, h => by
    rw [insOuter, if_neg (by omega)]
    rw [insOuter, if_neg (by omega)]
  | n + 1, i, d, hn, hb, h => by
    have hlt : i < b := by omega
    rw [insOuter, if_pos hlt]
    conv => rhs; rw [insOuter, if_pos hlt]
    rw [← insInner_congr (lt := lt) (lt' := lt') a i d (by omega) (fun q hq => h i q (Nat.le_refl _) hq hlt)]
    refine insOuter_congr a b n (i + 1) _ (by omega) (by rw [insInner_size]; exact hb) fun p q hp hq hpb => ?_
    rw [insInner_out a i d (by omega) p (by omega)]
    by_cases hqi : q ≤ i
    · exact insInner_all a i (fun x => lt d[p]! x = lt' d[p]! x) i d (Nat.le_refl _) (by omega) (fun q hq => h p q (by omega) (by omega) hpb) q hqi
    · rw [insInner_out a i d (by omega) q (by omega)]
      exact h p q (by omega) hq hpb
end
def lx98 (x y : S98) : Bool := decide (y.f1 < x.f1) || (decide (x.f1 = y.f1) && decide (x.f0 < y.f0))
theorem swoLx : SWO lx98 := ⟨fun x => by simp [lx98], fun x y z h1 h2 => by simp [lx98] at *; omega, fun x y z h1 h2 => by simp [lx98] at *; omega⟩
theorem srt_lx (d : Array S98) (h : ∀ p q, q < p → p < d.size → (d[q]!).f0 < (d[p]!).f0) : srt d = insertionSort lx98 d 0 d.size := by
  unfold srt insertionSort
  refine insOuter_congr 0 d.size _ _ d rfl (Nat.le_refl _) fun p q _ hq hp => ?_
  have := h p q hq hp
  rw [lt98]; unfold lx98
  have e : decide ((d[p]!).f0 < (d[q]!).f0) = false := by simp; omega
  rw [e]; simp
def SortedD (l : List S98) : Prop := l.Pairwise fun x y => y.f1 < x.f1 ∨ (x.f1 = y.f1 ∧ x.f0 < y.f0)
theorem srt_sorted (d : Array S98) (h : ∀ p q, q < p → p < d.size → (d[q]!).f0 < (d[p]!).f0) : SortedD (srt d).toList := by
  have hs := (insertionSort_holds (lt := lx98) swoLx d 0 d.size (Nat.zero_le _) (Nat.le_refl _)).2
  rw [← srt_lx d h] at hs
  have hp := srt_perm d
  have hnd : ((srt d).toList.map fun r => r.f0).Nodup := by
    rw [(hp.1.map _).nodup_iff]
    rw [List.Nodup, List.pairwise_map, List.pairwise_iff_getElem]
    intro i j hi hj hij
    have := h j i hij (by simpa using hj)
    rw [getElem!_pos d i (by simpa using hi), getElem!_pos d j (by simpa using hj)] at this
    simp only [Array.getElem_toList]
    omega
  unfold SortedD
  rw [List.Nodup, List.pairwise_map] at hnd
  rw [List.pairwise_iff_getElem] at hnd ⊢
  intro i j hi hj hij
  have h1 := hnd i j hi hj hij
  have h2 := hs i j (Nat.zero_le _) hij (by rw [← hp.2]; simpa using hj)
  rw [getElem!_pos _ i (by simpa using hi), getElem!_pos _ j (by simpa using hj)] at h2
  simp only [Array.getElem_toList] at h1 ⊢
  generalize (srt d)[i] = x at *
  generalize (srt d)[j] = y at *
  simp [lx98] at h2
  omega
end Go.Proofs.Ytncnhhnbjmpomaa
namespace Go.Proofs.Ytncnhhnbjmpomaa
open Go.RowKit Go.Proofs.Ytncnhhnbjmpomaa.Q Go.Sort
set_option linter.unusedVariables false
set_option linter.unusedSimpArgs false
theorem restsF_get (t all : Int) : ∀ (l : List Int) (i k : Nat) (h : k < (restsF t all i l).length), (restsF t all i l)[k] = ⟨((i + k : Nat) : Int), t * l.getD k 0 % all⟩
  | [], i, k, h => by simp [restsF] at h
  | w :: l, i, 0, h => by simp [restsF]
  | w :: l, i, k + 1, h => by
    have := restsF_get t all l (i + 1) k (by simpa [restsF] using h)
    simp only [restsF, List.getElem_cons_succ, this, List.getD_cons_succ]
    congr 2; omega
theorem perm_sum {l m : List Int} (h : l.Perm m) : l.sum = m.sum := by
  induction h with
  | nil => rfl
  | cons x _ ih => simp [ih]
  | swap x y l => simp; omega
  | trans _ _ ih1 ih2 => exact ih1.trans ih2
def ordF (t : Int) (ws : List Int) : List S98 := (srt (restsF t ws.sum 0 ws).toArray).toList
def rvF (t : Int) (ws : List Int) (i : Nat) : Int := t * ws.getD i 0 % ws.sum
theorem ord_perm (t : Int) (ws : List Int) : (ordF t ws).Perm (restsF t ws.sum 0 ws) := (srt_perm _).1
theorem ord_len (t : Int) (ws : List Int) : (ordF t ws).length = ws.length := by rw [(ord_perm t ws).length_eq, restsF_len]
theorem ord_sorted (t : Int) (ws : List Int) : SortedD (ordF t ws) := by
  refine srt_sorted _ fun p q hq hp => ?_
  have hp' : p < (restsF t ws.sum 0 ws).length := by simpa using hp
  rw [getElem!_pos _ p hp, getElem!_pos _ q (by omega)]
  simp only [List.getElem_toArray]
  rw [restsF_get, restsF_get]
  simp; omega
theorem ord_mem (t : Int) (ws : List Int) (r : S98) (h : r ∈ ordF t ws) : ∃ i : Nat, i < ws.length ∧ r = ⟨(i : Int), rvF t ws i⟩ := by
  have h1 := (ord_perm t ws).mem_iff.1 h
  obtain ⟨k, hk, he⟩ := List.getElem_of_mem h1
  rw [restsF_get] at he
  refine ⟨k, by rwa [restsF_len] at hk, ?_⟩
  rw [← he]; unfold rvF; simp
theorem mem_ord (t : Int) (ws : List Int) (i : Nat) (h : i < ws.length) : (⟨(i : Int), rvF t ws i⟩ : S98) ∈ ordF t ws := by
  refine (ord_perm t ws).mem_iff.2 ?_
  have hk : i < (restsF t ws.sum 0 ws).length := by rw [restsF_len]; exact h
  have := List.getElem_mem hk
  rw [restsF_get] at this
  unfold rvF; simpa using this
theorem sum_le_of : ∀ (l : List S98) (c : Int), (∀ r ∈ l, r.f1 ≤ c) → (l.map fun r => r.f1).sum ≤ l.length * c
  | [], c, _ => by simp
  | r :: l, c, h => by
    have h1 := sum_le_of l c (fun x hx => h x (by simp [hx]))
    have h2 := h r (by simp)
    have e : (((r :: l).length : Nat) : Int) * c = (l.length : Int) * c + c := by rw [List.length_cons, Int.natCast_add, Int.add_mul]; simp
    rw [e]; simp; omega
theorem ord_pos (t : Int) (ws : List Int) (ht : 0 ≤ t) (hw : ∀ x ∈ ws, 0 ≤ x) (ha : 0 < ws.sum) (j : Nat) (hj : (j : Int) < leftF t ws.sum ws) (hjl : j < (ordF t ws).length) : 0 < ((ordF t ws)[j]).f1 := by
  have hS := quos_sum t ws.sum ha ws
  have hp := perm_sum ((ord_perm t ws).map fun r => r.f1)
  have hall : ∀ r ∈ ordF t ws, 0 ≤ r.f1 ∧ r.f1 ≤ ws.sum - 1 := by
    intro r hr
    obtain ⟨i, _, rfl⟩ := ord_mem t ws r hr
    have h1 := Int.emod_nonneg (t * ws.getD i 0) (b := ws.sum) (by omega)
    have h2 := Int.emod_lt_of_pos (t * ws.getD i 0) ha
    unfold rvF; simp only []; omega
  apply Classical.byContradiction
  intro hn
  have hs := ord_sorted t ws
  have hsp : ordF t ws = (ordF t ws).take j ++ (ordF t ws).drop j := (List.take_append_drop j _).symm
  have h1 := sum_le_of ((ordF t ws).take j) (ws.sum - 1) (fun r hr => (hall r (List.mem_of_mem_take hr)).2)
  have h2 := sum_le_of ((ordF t ws).drop j) 0 (fun r hr => by
    obtain ⟨k, hk, he⟩ := List.getElem_of_mem hr
    rw [List.getElem_drop] at he
    by_cases hk0 : k = 0
    · subst hk0; rw [← he]; simp only [Nat.add_zero]; omega
    · have h3 := List.pairwise_iff_getElem.1 hs j (j + k) hjl (by simp at hk; omega) (by omega)
      rw [he] at h3; omega)
  have h3 : ((ordF t ws).map fun r => r.f1).sum = (((ordF t ws).take j).map fun r => r.f1).sum + (((ordF t ws).drop j).map fun r => r.f1).sum := by
    conv => lhs; rw [hsp, List.map_append, List.sum_append]
  rw [List.length_take, Nat.min_eq_left (by omega)] at h1
  rw [Int.mul_zero] at h2
  unfold leftF at hj
  rw [← hp] at hS
  generalize (quosF t ws.sum ws).sum = S at *
  have e : ws.sum * (t - S) = ((ordF t ws).map fun r => r.f1).sum := by rw [Int.mul_sub, Int.mul_comm ws.sum t]; omega
  have h4 : ws.sum * ((j : Int) + 1) ≤ ws.sum * (t - S) := Int.mul_le_mul_of_nonneg_left (by omega) (by omega)
  have h5 : ws.sum * ((j : Int) + 1) = (j : Int) * (ws.sum - 1) + j + ws.sum := by rw [Int.mul_add, Int.mul_sub, Int.mul_comm ws.sum]; omega
  omega
def alive (t : Int) (ws : List Int) (j i : Nat) : Prop := ∀ r ∈ (ordF t ws).take j, r.f0 ≠ (i : Int)
theorem alive_drop (t : Int) (ws : List Int) (j i : Nat) (hi : i < ws.length) (h : alive t ws j i) : (⟨(i : Int), rvF t ws i⟩ : S98) ∈ (ordF t ws).drop j := by
  have hm := mem_ord t ws i hi
  rw [← List.take_append_drop j (ordF t ws)] at hm
  rcases List.mem_append.1 hm with h1 | h1
  · exact absurd rfl (h _ h1)
  · exact h1
theorem ord_f0 (t : Int) (ws : List Int) (j k : Nat) (hj : j < k) (hk : k < (ordF t ws).length) : ((ordF t ws)[j]).f0 ≠ ((ordF t ws)[k]).f0 := by
  have h := List.pairwise_iff_getElem.1 (ord_sorted t ws) j k (by omega) hk hj
  obtain ⟨a, _, ea⟩ := ord_mem t ws _ (List.getElem_mem (show j < (ordF t ws).length by omega))
  obtain ⟨b, _, eb⟩ := ord_mem t ws _ (List.getElem_mem hk)
  rw [ea, eb] at h ⊢
  simp only [] at h ⊢
  intro e
  obtain rfl : a = b := by omega
  omega
theorem pick_unique (t : Int) (ws : List Int) (ht : 0 ≤ t) (hw : ∀ x ∈ ws, 0 ≤ x) (ha : 0 < ws.sum) (j : Nat) (hj : (j : Int) < leftF t ws.sum ws) (hjl : j < (ordF t ws).length) (b : Nat) (hb : b < ws.length) (hab : alive t ws j b)
    (hmax : ∀ m, m < ws.length → alive t ws j m → rvF t ws m ≤ rvF t ws b) (hfst : ∀ m, m < b → alive t ws j m → rvF t ws m < rvF t ws b ∨ rvF t ws b = 0) : (ordF t ws)[j] = ⟨(b : Int), rvF t ws b⟩ := by
  have hpos := ord_pos t ws ht hw ha j hj hjl
  obtain ⟨p, hp, ep⟩ := ord_mem t ws _ (List.getElem_mem hjl)
  rw [ep] at hpos
  simp only [] at hpos
  have hap : alive t ws j p := by
    intro r hr he
    obtain ⟨k, hk, e⟩ := List.getElem_of_mem hr
    rw [List.getElem_take] at e
    simp at hk
    refine ord_f0 t ws k j (by omega) hjl ?_
    rw [e, ep, he]
  have h1 := hmax p hp hap
  have hd := alive_drop t ws j b hb hab
  obtain ⟨k, hk, e⟩ := List.getElem_of_mem hd
  rw [List.getElem_drop] at e
  by_cases hk0 : k = 0
  · subst hk0; simpa using e
  · have h2 := List.pairwise_iff_getElem.1 (ord_sorted t ws) j (j + k) hjl (by simp at hk; omega) (by omega)
    rw [e, ep] at h2
    simp only [] at h2
    rcases h2 with h2 | ⟨h2, h3⟩
    · omega
    · have := hfst p (by omega) hap
      omega
theorem alive_some (t : Int) (ws : List Int) (ht : 0 ≤ t) (hw : ∀ x ∈ ws, 0 ≤ x) (ha : 0 < ws.sum) (j : Nat) (hj : (j : Int) < leftF t ws.sum ws) (hjl : j < (ordF t ws).length) : ∃ p, p < ws.length ∧ alive t ws j p ∧ 0 < rvF t ws p := by
  have hpos := ord_pos t ws ht hw ha j hj hjl
  obtain ⟨p, hp, ep⟩ := ord_mem t ws _ (List.getElem_mem hjl)
  rw [ep] at hpos
  refine ⟨p, hp, ?_, hpos⟩
  intro r hr he
  obtain ⟨k, hk, e⟩ := List.getElem_of_mem hr
  rw [List.getElem_take] at e
  simp at hk
  refine ord_f0 t ws k j (by omega) hjl ?_
  rw [e, ep, he]
end Go.Proofs.Ytncnhhnbjmpomaa
namespace Go.Proofs.Ytncnhhnbjmpomaa.Q
open Go.RowKit
set_option linter.unusedVariables false
set_option linter.unusedSimpArgs false
def EvT {α : Type} (f : Nat → Option α) (v : α) : Prop := ∃ m, ∀ k, m ≤ k → f k = some v
section
variable {α β : Type} {f g : Nat → Option α} {v : α} {w : β}
theorem EvT.const (v : α) : EvT (fun _ => some v) v := ⟨0, fun _ _ => rfl⟩
theorem EvT.step (h : ∀ k, f (k + 1) = g k) (hg : EvT g v) : EvT f v := by
  obtain ⟨m, hm⟩ := hg
  refine ⟨m + 1, fun k hk => ?_⟩
  obtain ⟨j, rfl⟩ : ∃ j, k = j + 1 := ⟨k - 1, by omega⟩
  rw [h]; exact hm j (by omega)
theorem EvT.step2 (h : ∀ k, f (k + 2) = g k) (hg : EvT g v) : EvT f v := by
  obtain ⟨m, hm⟩ := hg
  refine ⟨m + 2, fun k hk => ?_⟩
  obtain ⟨j, rfl⟩ : ∃ j, k = j + 2 := ⟨k - 2, by omega⟩
  rw [h]; exact hm j (by omega)
theorem EvT.done (h : ∀ k, f (k + 1) = some v) : EvT f v := EvT.step h (EvT.const v)
theorem EvT.congr (h : ∀ k, f k = g k) (hg : EvT g v) : EvT f v := by
  obtain ⟨m, hm⟩ := hg
  exact ⟨m, fun k hk => by rw [h]; exact hm k hk⟩
theorem EvT.bind {F : Nat → α → Option β} (hf : EvT f v) (hF : EvT (fun k => F k v) w) : EvT (fun k => (f k).bind (F k)) w := by
  obtain ⟨m, hm⟩ := hf
  obtain ⟨n, hn⟩ := hF
  refine ⟨m + n, fun k hk => ?_⟩
  show (f k).bind (F k) = _
  rw [hm k (by omega)]; exact hn k (by omega)
theorem EvT.one (h : EvT f v) : ∃ k, f k = some v := by
  obtain ⟨m, hm⟩ := h
  exact ⟨m, hm m (Nat.le_refl _)⟩
end
theorem nx (i : Nat) (h : i < 1000000000000) : wrap64 ((i : Int) + 1) = ((i + 1 : Nat) : Int) := by
  unfold wrap64; omega
theorem pv (i : Nat) (h : i < 1000000000000) : wrap64 (((i + 1 : Nat) : Int) - 1) = (i : Int) := by
  unfold wrap64; omega
theorem pv1 (i : Nat) (h : i < 1000000000000) : wrap64 ((i : Int) - 1) = (i : Int) - 1 := by
  unfold wrap64; omega
end Go.Proofs.Ytncnhhnbjmpomaa.Q
namespace Go.Proofs.Ytncnhhnbjmpomaa.Q
open Go.RowKit Go.Proofs.YtncnhhnbjmpomaaW.PrintWords Go.Proofs.YtncnhhnbjmpomaaW.PrintLast Go.Proofs.YtncnhhnbjmpomaaW.PrintMore
set_option linter.unusedVariables false
set_option linter.unusedSimpArgs false
def bv (b : Bool) : Nat := if b = true then 1 else 0
def val : List Bool → Nat
  | [] => 0
  | b :: l => bv b + 2 * val l
theorem bv_le (b : Bool) : bv b ≤ 1 := by cases b <;> decide
theorem val_lt : ∀ l : List Bool, val l < 2 ^ l.length
  | [] => by decide
  | b :: l => by
    have := val_lt l
    have := bv_le b
    simp only [val, List.length_cons, Nat.pow_succ]; omega
theorem val_snoc : ∀ (l : List Bool) (b : Bool), val (l ++ [b]) = val l + 2 ^ l.length * bv b
  | [], b => by simp [val]
  | c :: l, b => by
    simp only [List.cons_append, val, val_snoc l b, List.length_cons, Nat.pow_succ]
    rw [Nat.mul_add, Nat.mul_comm (2 ^ l.length) 2, Nat.mul_assoc]; omega
theorem val_app : ∀ (l r : List Bool), val (l ++ r) = val l + 2 ^ l.length * val r
  | [], r => by simp [val]
  | c :: l, r => by
    simp only [List.cons_append, val, val_app l r, List.length_cons, Nat.pow_succ]
    rw [Nat.mul_add, Nat.mul_comm (2 ^ l.length) 2, Nat.mul_assoc]; omega
def bat (a : List Bool) (i : Nat) : Bool := a.getD i false
theorem val_take_succ (a : List Bool) (i : Nat) : val (a.take (i + 1)) = val (a.take i) + 2 ^ i * bv (bat a i) := by
  by_cases h : i < a.length
  · rw [List.take_succ_eq_append_getElem h, val_snoc, List.length_take, Nat.min_eq_left (by omega)]
    unfold bat; rw [List.getD_eq_getElem?_getD, List.getElem?_eq_getElem h]; rfl
  · rw [List.take_of_length_le (by omega), List.take_of_length_le (by omega)]
    unfold bat; rw [List.getD_eq_getElem?_getD, List.getElem?_eq_none (by omega)]; simp [bv]
theorem val_take_all (a : List Bool) (i : Nat) (h : a.length ≤ i) : val (a.take i) = val a := by rw [List.take_of_length_le h]
theorem val_split (a : List Bool) (i : Nat) (h : i ≤ a.length) : val a = val (a.take i) + 2 ^ i * val (a.drop i) := by
  conv => lhs; rw [← List.take_append_drop i a, val_app]
  rw [List.length_take, Nat.min_eq_left h]
theorem at_ok (a : List Bool) (i : Nat) : soukref01_Wide_at.f a (i : Int) = some (bat a i) := by
  unfold soukref01_Wide_at.f bat
  by_cases h : i < a.length
  · rw [if_pos (by omega), if_pos (by omega)]
    unfold rdOf; rw [Int.toNat_natCast]
  · rw [if_neg (by omega), List.getD_eq_getElem?_getD, List.getElem?_eq_none (by omega)]; rfl
theorem rdOf_at (a : List Bool) (i : Nat) : rdOf false a (i : Int) = bat a i := by unfold rdOf bat; rw [Int.toNat_natCast]
def trimF : List Bool → List Bool
  | [] => []
  | b :: l => if b = false ∧ trimF l = [] then [] else b :: trimF l
theorem trimF_val : ∀ l : List Bool, val (trimF l) = val l
  | [] => rfl
  | b :: l => by
    have ih := trimF_val l
    unfold trimF
    split
    · rename_i h
      obtain ⟨rfl, h2⟩ := h
      rw [h2] at ih
      simp only [val] at ih ⊢
      rw [← ih]; rfl
    · simp only [val, ih]
theorem trimF_len : ∀ l : List Bool, (trimF l).length ≤ l.length
  | [] => Nat.le_refl _
  | b :: l => by
    have := trimF_len l
    unfold trimF
    split
    · simp
    · simp; omega
theorem trimF_nil : ∀ l : List Bool, trimF l = [] ↔ val l = 0
  | [] => by simp [trimF, val]
  | b :: l => by
    have ih := trimF_nil l
    unfold trimF
    split
    · rename_i h
      obtain ⟨rfl, h2⟩ := h
      have := ih.1 h2
      simp [val, this, bv]
    · rename_i h
      simp only [reduceCtorEq, false_iff, val]
      intro h0
      apply h
      cases b with
      | true => simp [bv] at h0
      | false => exact ⟨rfl, ih.2 (by simp [bv] at h0; omega)⟩
theorem trimF_pow : ∀ l : List Bool, trimF l ≠ [] → 2 ^ ((trimF l).length - 1) ≤ val l
  | [], h => absurd rfl h
  | b :: l, h => by
    unfold trimF at h ⊢
    split at h
    · exact absurd rfl h
    · rename_i hc
      rw [if_neg hc]
      simp only [List.length_cons, Nat.add_sub_cancel, val]
      by_cases hl : trimF l = []
      · rw [hl]
        cases b with
        | true => simp [bv]
        | false => exact absurd ⟨rfl, hl⟩ hc
      · have := trimF_pow l hl
        have hpos : 0 < (trimF l).length := List.length_pos_iff.2 hl
        obtain ⟨n, hn⟩ : ∃ n, (trimF l).length = n + 1 := ⟨(trimF l).length - 1, by omega⟩
        rw [hn] at this ⊢
        rw [Nat.pow_succ]
        simp at this; omega
theorem trimF_false : ∀ l : List Bool, trimF (l ++ [false]) = trimF l
  | [] => rfl
  | b :: l => by simp only [List.cons_append, trimF, trimF_false l]
theorem trimF_true : ∀ l : List Bool, trimF (l ++ [true]) = l ++ [true]
  | [] => rfl
  | b :: l => by
    simp only [List.cons_append, trimF, trimF_true l]
    rw [if_neg (by simp)]
theorem trim_from (a : List Bool) (ha : a.length ≤ 1000000) : ∀ j, j ≤ a.length → EvT (fun k => soukref01_trim.l0 k a (j : Int)) (trimF (a.take j))
  | 0, _ => by
    refine EvT.done (fun k => ?_)
    simp only [soukref01_trim.l0]
    rw [if_neg (by omega), if_pos (by omega), if_pos (by omega)]
    simp [trimF]
  | j + 1, hj => by
    have ih := trim_from a ha j (by omega)
    have hlt : j < a.length := by omega
    have ht : a.take (j + 1) = a.take j ++ [bat a j] := by
      rw [List.take_succ_eq_append_getElem hlt]; unfold bat; rw [List.getD_eq_getElem?_getD, List.getElem?_eq_getElem hlt]; rfl
    cases hb : bat a j with
    | true =>
      refine EvT.done (fun k => ?_)
      simp only [soukref01_trim.l0]
      rw [if_pos (by omega), pv j (by omega), if_pos (by omega), if_pos (by omega), rdOf_at, if_pos hb, if_pos (by omega), if_pos (by omega), Int.toNat_natCast, ht, hb, trimF_true]
    | false =>
      rw [ht, hb, trimF_false]
      refine EvT.step (fun k => ?_) ih
      simp only [soukref01_trim.l0]
      rw [if_pos (by omega), pv j (by omega), if_pos (by omega), if_pos (by omega), rdOf_at, if_neg (by rw [hb]; decide)]
theorem trim_ok (a : List Bool) (ha : a.length ≤ 1000000) : EvT (fun k => soukref01_trim.f k a) (trimF a) := by
  have := trim_from a ha a.length (Nat.le_refl _)
  rw [List.take_length] at this
  exact this
end Go.Proofs.Ytncnhhnbjmpomaa.Q
namespace Go.Proofs.Ytncnhhnbjmpomaa.Q
open Go.RowKit Go.Proofs.YtncnhhnbjmpomaaW.PrintWords Go.Proofs.YtncnhhnbjmpomaaW.PrintLast Go.Proofs.YtncnhhnbjmpomaaW.PrintMore
set_option linter.unusedVariables false
set_option linter.unusedSimpArgs false
def bitsN : Nat → List Bool
  | 0 => []
  | n + 1 => decide ((n + 1) % 2 = 1) :: bitsN ((n + 1) / 2)
termination_by n => n
theorem bitsN_pos (n : Nat) (h : 0 < n) : bitsN n = decide (n % 2 = 1) :: bitsN (n / 2) := by
  obtain ⟨m, rfl⟩ : ∃ m, n = m + 1 := ⟨n - 1, by omega⟩
  rw [bitsN]
theorem bitsN_val : ∀ n : Nat, val (bitsN n) = n := by
  intro n
  induction n using Nat.strongRecOn with
  | ind n ih =>
  by_cases h : 0 < n
  · rw [bitsN_pos n h]
    simp only [val, ih (n / 2) (by omega)]
    by_cases h2 : n % 2 = 1
    · simp [bv, h2]; omega
    · simp [bv, h2]; omega
  · have : n = 0 := by omega
    subst this; rw [bitsN]; rfl
theorem bitsN_len : ∀ (j n : Nat), n < 2 ^ j → (bitsN n).length ≤ j
  | 0, n, h => by have : n = 0 := by simpa using h
                  subst this; rw [bitsN]; simp
  | j + 1, n, h => by
    by_cases h0 : 0 < n
    · rw [bitsN_pos n h0]
      have := bitsN_len j (n / 2) (by rw [Nat.pow_succ] at h; omega)
      simp; omega
    · have : n = 0 := by omega
      subst this; rw [bitsN]; simp
theorem and1 (n : Nat) (h : n < 18446744073709551616) : Go.bits .and .u64 (n : Int) 1 = ((n % 2 : Nat) : Int) := by
  have := bits_and_u64_nat n 1 h (by decide)
  have e : ((1 : Nat) : Int) = 1 := rfl
  rw [e] at this
  rw [this, Nat.and_one_is_mod]
theorem bits_from : ∀ (j n : Nat) (out : List Bool), n < 2 ^ j → j ≤ 64 → out.length + j ≤ 1000 → EvT (fun k => soukref01_bits.l0 k out (n : Int)) (out ++ bitsN n) := by
  intro j
  induction j with
  | zero =>
    intro n out h _ _
    have : n = 0 := by simpa using h
    subst this
    refine EvT.done (fun k => ?_)
    simp only [soukref01_bits.l0]
    rw [if_neg (by decide), bitsN, List.append_nil]
  | succ j ih =>
    intro n out h hj hl
    by_cases h0 : 0 < n
    · have h64 : n < 18446744073709551616 := Nat.lt_of_lt_of_le h (Nat.pow_le_pow_right (by decide) hj)
      have := ih (n / 2) (out ++ [decide (n % 2 = 1)]) (by rw [Nat.pow_succ] at h; omega) (by omega) (by simp; omega)
      rw [List.append_assoc, List.singleton_append, ← bitsN_pos n h0] at this
      refine EvT.step (fun k => ?_) this
      simp only [soukref01_bits.l0]
      have e1 : ((n : Int) / 2) = ((n / 2 : Nat) : Int) := by omega
      have e2 : (((n % 2 : Nat) : Int) == 1) = decide (n % 2 = 1) := by
        by_cases h2 : n % 2 = 1
        · simp [h2]
        · have : n % 2 = 0 := by omega
          simp [this]
      rw [if_pos (by omega), if_pos (by omega), and1 n h64, e1, e2]
    · have : n = 0 := by omega
      subst this
      refine EvT.done (fun k => ?_)
      simp only [soukref01_bits.l0]
      rw [if_neg (by decide), bitsN, List.append_nil]
theorem bits_ok (a : Int) (ha : inR a) : EvT (fun k => soukref01_bits.f k a) (bitsN a.natAbs) := by
  unfold inR at ha
  have key : ∀ n : Nat, n < 18446744073709551616 → EvT (fun k => soukref01_bits.j0 k [] (n : Int)) (bitsN n) := fun n hn => by
    refine EvT.step (fun k => ?_) (bits_from 64 n [] hn (Nat.le_refl _) (by decide))
    simp only [soukref01_bits.j0]
  by_cases h : a < 0
  · refine EvT.congr (fun k => ?_) (key a.natAbs (by omega))
    unfold soukref01_bits.f
    rw [if_pos h]
    have : IntKind.u64.wrap (-IntKind.u64.wrap a) = (a.natAbs : Int) := by
      rw [IntKind.wrap_u64, IntKind.wrap_u64]; omega
    rw [this]
  · refine EvT.congr (fun k => ?_) (key a.natAbs (by omega))
    unfold soukref01_bits.f
    rw [if_neg h]
    have : IntKind.u64.wrap a = (a.natAbs : Int) := by
      rw [IntKind.wrap_u64]; omega
    rw [this]
theorem bitsN_len64 (a : Int) (ha : inR a) : (bitsN a.natAbs).length ≤ 64 := by
  unfold inR at ha
  exact bitsN_len 64 _ (by omega)
def maj (x y z : Bool) : Bool := (x && y) || (x && z) || (y && z)
theorem add3 (x y z : Bool) : bv x + bv y + bv z = bv ((x != y) != z) + 2 * bv (maj x y z) := by cases x <;> cases y <;> cases z <;> decide
theorem plus_go (a b out : List Bool) (c : Bool) (i : Nat) (hi : i < 1000000) (ho : out.length < 1000000) (hc : i < a.length ∨ i < b.length ∨ c = true) (k : Nat) :
    soukref01_Plus.l0 (k + 2) a b out c (i : Int) = soukref01_Plus.l0 k a b (out ++ [((bat a i) != (bat b i)) != c]) (maj (bat a i) (bat b i) c) ((i + 1 : Nat) : Int) := by
  have hj : soukref01_Plus.j1 (k + 1) a b out c (i : Int) true = soukref01_Plus.l0 k a b (out ++ [((bat a i) != (bat b i)) != c]) (maj (bat a i) (bat b i) c) ((i + 1 : Nat) : Int) := by
    simp only [soukref01_Plus.j1]
    rw [if_pos trivial, at_ok, at_ok]
    simp only [Option.bind_some]
    rw [nx i (by omega)]
    have hl : out.length < 140737488355328 := by omega
    cases bat a i <;> cases bat b i <;> cases c <;> simp [hl, maj]
  show soukref01_Plus.l0 (k + 1 + 1) _ _ _ _ _ = _
  obtain ⟨K, hK⟩ : ∃ K, K = k + 1 := ⟨_, rfl⟩
  rw [← hK] at hj ⊢
  simp only [soukref01_Plus.l0]
  by_cases h1 : i < a.length
  · rw [if_pos (by omega), hj]
  · rw [if_neg (by omega)]
    by_cases h2 : i < b.length
    · rw [if_pos (by omega), hj]
    · rw [if_neg (by omega)]
      have h3 : c = true := by rcases hc with h | h | h; exact absurd h h1; exact absurd h h2; exact h
      subst h3
      exact hj
theorem plus_from (a b : List Bool) (ha : a.length ≤ 100000) (hb : b.length ≤ 100000) : ∀ (d i : Nat) (out : List Bool) (c : Bool), max a.length b.length - i = d → out.length = i → i ≤ max a.length b.length →
    val out + 2 ^ i * bv c = val (a.take i) + val (b.take i) → ∃ r, EvT (fun k => soukref01_Plus.l0 k a b out c (i : Int)) r ∧ val r = val a + val b ∧ r.length ≤ max a.length b.length + 1 := by
  intro d
  induction d with
  | zero =>
    intro i out c hd ho hi hv
    have e : i = max a.length b.length := by omega
    rw [val_take_all a i (by omega), val_take_all b i (by omega)] at hv
    cases c with
    | false =>
      refine ⟨out, EvT.step (g := fun k => soukref01_Plus.j1 k a b out false i false) (fun k => ?_) (EvT.done (fun k => ?_)), by simpa [bv] using hv, by omega⟩
      · simp only [soukref01_Plus.l0]
        rw [if_neg (by omega), if_neg (by omega)]
      · simp only [soukref01_Plus.j1]
        rw [if_neg (by decide)]
    | true =>
      have ha0 : bat a i = false := by unfold bat; rw [List.getD_eq_getElem?_getD, List.getElem?_eq_none (by omega)]; rfl
      have hb0 : bat b i = false := by unfold bat; rw [List.getD_eq_getElem?_getD, List.getElem?_eq_none (by omega)]; rfl
      refine ⟨out ++ [true], EvT.step2 (g := fun k => soukref01_Plus.l0 k a b (out ++ [true]) false ((i + 1 : Nat) : Int)) (fun k => ?_) ?_, ?_, by simp; omega⟩
      · rw [plus_go a b out true i (by omega) (by omega) (.inr (.inr rfl)) k, ha0, hb0]; rfl
      · refine EvT.step (g := fun k => soukref01_Plus.j1 k a b (out ++ [true]) false ((i + 1 : Nat) : Int) false) (fun k => ?_) (EvT.done (fun k => ?_))
        · simp only [soukref01_Plus.l0]
          rw [if_neg (by omega), if_neg (by omega)]
        · simp only [soukref01_Plus.j1]
          rw [if_neg (by decide)]
      · rw [val_snoc, ho]; exact hv
  | succ d ih =>
    intro i out c hd ho hi hv
    have hlt : i < max a.length b.length := by omega
    obtain ⟨r, h1, h2, h3⟩ := ih (i + 1) (out ++ [((bat a i) != (bat b i)) != c]) (maj (bat a i) (bat b i) c) (by omega) (by simp [ho]) (by omega) (by
      have h3 := add3 (bat a i) (bat b i) c
      rw [val_snoc, ho, val_take_succ, val_take_succ, Nat.pow_succ]
      generalize bat a i = x at *
      generalize bat b i = y at *
      generalize 2 ^ i = p at *
      cases x <;> cases y <;> cases c <;> simp [bv, maj] at hv ⊢ <;> omega)
    refine ⟨r, EvT.step2 (fun k => ?_) h1, h2, h3⟩
    exact plus_go a b out c i (by omega) (by omega) (by omega) k
theorem plus_ok (a b : List Bool) (ha : a.length ≤ 100000) (hb : b.length ≤ 100000) : ∃ r, EvT (fun k => soukref01_Plus.f k a b) r ∧ val r = val a + val b ∧ r.length ≤ max a.length b.length + 1 := by
  obtain ⟨r, h1, h2, h3⟩ := plus_from a b ha hb _ 0 [] false rfl rfl (by omega) (by simp [val, bv])
  exact ⟨r, h1, h2, h3⟩
theorem less_from (a b : List Bool) : ∀ j : Nat, j ≤ 100000 → EvT (fun k => soukref01_less.l0 k a b ((j : Int) - 1)) (decide (val (a.take j) < val (b.take j)))
  | 0, _ => by
    refine EvT.done (fun k => ?_)
    simp only [soukref01_less.l0]
    rw [if_neg (by omega)]; simp [val]
  | j + 1, hj => by
    have ih := less_from a b j (by omega)
    have e : ((j + 1 : Nat) : Int) - 1 = (j : Int) := by omega
    rw [e, val_take_succ, val_take_succ]
    have hA := val_lt (a.take j)
    have hB := val_lt (b.take j)
    have hA2 : val (a.take j) < 2 ^ j := Nat.lt_of_lt_of_le hA (Nat.pow_le_pow_right (by decide) (List.length_take_le _ _))
    have hB2 : val (b.take j) < 2 ^ j := Nat.lt_of_lt_of_le hB (Nat.pow_le_pow_right (by decide) (List.length_take_le _ _))
    clear hA hB
    have hgo : ∀ k, soukref01_less.l0 (k + 1) a b (j : Int) = if bat a j = true then (if bat b j = true then soukref01_less.l0 k a b ((j : Int) - 1) else some (bat b j)) else (if bat b j = true then some (bat b j) else soukref01_less.l0 k a b ((j : Int) - 1)) := fun k => by
      simp only [soukref01_less.l0]
      rw [if_pos (by omega), at_ok, at_ok]
      simp only [Option.bind_some]
      rw [pv1 j (by omega)]
    cases hx : bat a j <;> cases hy : bat b j
    · have e2 : decide (val (a.take j) + 2 ^ j * bv false < val (b.take j) + 2 ^ j * bv false) = decide (val (a.take j) < val (b.take j)) := by simp [bv]
      rw [e2]
      exact EvT.step (fun k => by rw [hgo, hx, hy]; rfl) ih
    · have e2 : decide (val (a.take j) + 2 ^ j * bv false < val (b.take j) + 2 ^ j * bv true) = true := by simp [bv]; omega
      rw [e2]
      exact EvT.done (fun k => by rw [hgo, hx, hy]; rfl)
    · have e2 : decide (val (a.take j) + 2 ^ j * bv true < val (b.take j) + 2 ^ j * bv false) = false := by simp [bv]; omega
      rw [e2]
      exact EvT.done (fun k => by rw [hgo, hx, hy]; rfl)
    · have e2 : decide (val (a.take j) + 2 ^ j * bv true < val (b.take j) + 2 ^ j * bv true) = decide (val (a.take j) < val (b.take j)) := by simp [bv]
      rw [e2]
      exact EvT.step (fun k => by rw [hgo, hx, hy]; rfl) ih
theorem less_ok (a b : List Bool) (ha : a.length ≤ 100000) (hb : b.length ≤ 100000) : EvT (fun k => soukref01_less.f k a b) (decide (val a < val b)) := by
  have key : ∀ n, n ≤ 100000 → a.length ≤ n → b.length ≤ n → EvT (fun k => soukref01_less.l0 k a b ((n : Int) - 1)) (decide (val a < val b)) := fun n h h1 h2 => by
    have := less_from a b n h
    rwa [val_take_all a n h1, val_take_all b n h2] at this
  by_cases h : a.length < b.length
  · refine EvT.congr (fun k => ?_) (key b.length hb (by omega) (Nat.le_refl _))
    unfold soukref01_less.f
    rw [if_pos (by omega), pv1 _ (by omega)]
  · refine EvT.congr (fun k => ?_) (key a.length ha (Nat.le_refl _) (by omega))
    unfold soukref01_less.f
    rw [if_neg (by omega), pv1 _ (by omega)]
end Go.Proofs.Ytncnhhnbjmpomaa.Q
namespace Go.Proofs.Ytncnhhnbjmpomaa.Q
open Go.RowKit Go.Proofs.YtncnhhnbjmpomaaW.PrintWords Go.Proofs.YtncnhhnbjmpomaaW.PrintLast Go.Proofs.YtncnhhnbjmpomaaW.PrintMore
set_option linter.unusedVariables false
set_option linter.unusedSimpArgs false
def bor (x y w : Bool) : Bool := (!x && (y || w)) || (y && w)
theorem sub3 (x y w : Bool) : bv ((x != y) != w) + bv y + bv w = bv x + 2 * bv (bor x y w) := by cases x <;> cases y <;> cases w <;> decide
theorem minus_go (a b out : List Bool) (c : Bool) (i : Nat) (hi : i < a.length) (ha : a.length ≤ 100000) (ho : out.length < 1000000) (k : Nat) :
    soukref01_minus.l0 (k + 1) a b out c (i : Int) = soukref01_minus.l0 k a b (out ++ [((bat a i) != (bat b i)) != c]) (bor (bat a i) (bat b i) c) ((i + 1 : Nat) : Int) := by
  simp only [soukref01_minus.l0]
  rw [if_pos (by omega), at_ok, at_ok]
  simp only [Option.bind_some]
  rw [nx i (by omega)]
  have hl : out.length < 140737488355328 := by omega
  cases bat a i <;> cases bat b i <;> cases c <;> simp [hl, bor]
theorem minus_from (a b : List Bool) (ha : a.length ≤ 100000) : ∀ (d i : Nat) (out : List Bool) (c : Bool), a.length - i = d → out.length = i → i ≤ a.length →
    val out + val (b.take i) = val (a.take i) + 2 ^ i * bv c → ∃ r c', EvT (fun k => soukref01_minus.l0 k a b out c (i : Int)) (trimF r) ∧ r.length = a.length ∧ val r + val (b.take a.length) = val a + 2 ^ a.length * bv c' := by
  intro d
  induction d with
  | zero =>
    intro i out c hd ho hi hv
    have e : i = a.length := by omega
    subst e
    rw [List.take_length] at hv
    refine ⟨out, c, EvT.step (g := fun k => (soukref01_trim.f k out).bind fun t => some t) (fun k => ?_) ?_, ho, hv⟩
    · simp only [soukref01_minus.l0]
      rw [if_neg (by omega)]
    · exact EvT.bind (F := fun _ t => some t) (trim_ok out (by omega)) (EvT.const _)
  | succ d ih =>
    intro i out c hd ho hi hv
    obtain ⟨r, c', h1, h2⟩ := ih (i + 1) (out ++ [((bat a i) != (bat b i)) != c]) (bor (bat a i) (bat b i) c) (by omega) (by simp [ho]) (by omega) (by
      have h3 := sub3 (bat a i) (bat b i) c
      rw [val_snoc, ho, val_take_succ, val_take_succ, Nat.pow_succ]
      generalize bat a i = x at *
      generalize bat b i = y at *
      generalize 2 ^ i = p at *
      cases x <;> cases y <;> cases c <;> simp [bv, bor] at hv ⊢ <;> omega)
    exact ⟨r, c', EvT.step (fun k => minus_go a b out c i (by omega) ha (by omega) k) h1, h2⟩
theorem val_take_lt (b : List Bool) (n : Nat) (h : val b < 2 ^ n) : val (b.take n) = val b := by
  by_cases hn : b.length ≤ n
  · exact val_take_all b n hn
  · have h1 := val_split b n (by omega)
    have : val (b.drop n) = 0 := by
      apply Classical.byContradiction
      intro h0
      have : 2 ^ n * 1 ≤ 2 ^ n * val (b.drop n) := Nat.mul_le_mul_left _ (by omega)
      omega
    rw [this] at h1; simpa using h1.symm
theorem minus_ok (a b : List Bool) (ha : a.length ≤ 100000) (hle : val b ≤ val a) : ∃ r, EvT (fun k => soukref01_minus.f k a b) (trimF r) ∧ val r = val a - val b ∧ r.length = a.length := by
  obtain ⟨r, c, h1, h2, h3⟩ := minus_from a b ha _ 0 [] false rfl rfl (by omega) (by simp [val, bv])
  refine ⟨r, h1, ?_, h2⟩
  have hA := val_lt a
  have hr := val_lt r
  rw [h2] at hr
  rw [val_take_lt b a.length (by omega)] at h3
  cases c with
  | false => simp [bv] at h3; omega
  | true => simp [bv] at h3; omega
theorem drop_bat (b : List Bool) (j : Nat) (h : j < b.length) : b.drop j = bat b j :: b.drop (j + 1) := by
  rw [← List.getElem_cons_drop (h := h)]
  unfold bat; rw [List.getD_eq_getElem?_getD, List.getElem?_eq_getElem h]; rfl
theorem times_from (a b : List Bool) (ha : a.length ≤ 1000) (hb : b.length ≤ 1000) : ∀ (j : Nat) (out : List Bool), j ≤ b.length → out.length ≤ 10000 + (b.length - j) * 2 → val out = val a * val (b.drop j) →
    ∃ r, EvT (fun k => soukref01_Times.l0 k a b out ((j : Int) - 1)) (trimF r) ∧ val r = val a * val b ∧ r.length ≤ 20000
  | 0, out, _, ho, hv => by
    refine ⟨out, EvT.step (g := fun k => (soukref01_trim.f k out).bind fun t => some t) (fun k => ?_) ?_, by simpa using hv, by omega⟩
    · simp only [soukref01_Times.l0]
      rw [if_neg (by omega)]
    · exact EvT.bind (F := fun _ t => some t) (trim_ok out (by omega)) (EvT.const _)
  | j + 1, out, hj, ho, hv => by
    have e : ((j + 1 : Nat) : Int) - 1 = (j : Int) := by omega
    have hlt : j < b.length := by omega
    have hd := drop_bat b j hlt
    rw [e]
    cases hb1 : bat b j with
    | false =>
      have hv2 : val (false :: out) = val a * val (b.drop j) := by
        rw [hd, hb1]; simp only [val, bv]; rw [hv]; simp [Nat.mul_left_comm]
      obtain ⟨r, h1, h2⟩ := times_from a b ha hb j (false :: out) (by omega) (by simp; omega) hv2
      refine ⟨r, EvT.step (fun k => ?_) h1, h2⟩
      simp only [soukref01_Times.l0]
      rw [if_pos (by omega)]
      simp only [Option.bind_some, List.length_cons, List.length_nil, List.cons_append, List.nil_append]
      rw [if_pos (by omega), if_pos (by omega), if_pos (by omega), rdOf_at, if_neg (by rw [hb1]; decide), pv1 j (by omega)]
    | true =>
      obtain ⟨s, hs1, hs2, hs3⟩ := plus_ok (false :: out) a (by simp; omega) (by omega)
      have hv2 : val s = val a * val (b.drop j) := by
        rw [hd, hb1, hs2]; simp only [val, bv]; rw [hv]; simp [Nat.mul_add, Nat.mul_left_comm]; omega
      obtain ⟨r, h1, h2⟩ := times_from a b ha hb j s (by omega) (by simp at hs3; omega) hv2
      refine ⟨r, EvT.step (g := fun k => (soukref01_Plus.f k (false :: out) a).bind fun t => soukref01_Times.l0 k a b t ((j : Int) - 1)) (fun k => ?_) (EvT.bind (F := fun k t => soukref01_Times.l0 k a b t ((j : Int) - 1)) hs1 h1), h2⟩
      simp only [soukref01_Times.l0]
      rw [if_pos (by omega)]
      simp only [Option.bind_some, List.length_cons, List.length_nil, List.cons_append, List.nil_append]
      rw [if_pos (by omega), if_pos (by omega), if_pos (by omega), rdOf_at, if_pos hb1, pv1 j (by omega)]
theorem times_ok (a b : List Bool) (ha : a.length ≤ 1000) (hb : b.length ≤ 1000) : ∃ r, EvT (fun k => soukref01_Times.f k a b) (trimF r) ∧ val r = val a * val b ∧ r.length ≤ 20000 := by
  obtain ⟨r, h1, h2⟩ := times_from a b ha hb b.length [] (Nat.le_refl _) (by simp) (by simp [val])
  refine ⟨r, EvT.congr (fun k => ?_) h1, h2⟩
  unfold soukref01_Times.f
  rw [pv1 _ (by omega)]
theorem trimF_idem : ∀ l : List Bool, trimF (trimF l) = trimF l
  | [] => rfl
  | b :: l => by
    have ih := trimF_idem l
    by_cases h : b = false ∧ trimF l = []
    · have : trimF (b :: l) = [] := by unfold trimF; rw [if_pos h]
      rw [this]; rfl
    · have e : trimF (b :: l) = b :: trimF l := by rw [trimF, if_neg h]
      rw [e, trimF, ih, if_neg h]
theorem canon_len (r b : List Bool) (hc : r = trimF r) (hlt : val r < val b) : r.length ≤ (trimF b).length := by
  by_cases h : r = []
  · rw [h]; simp
  · have h1 := trimF_pow r (by rw [← hc]; exact h)
    rw [← hc] at h1
    have h2 := val_lt (trimF b)
    rw [trimF_val] at h2
    apply Classical.byContradiction
    intro h3
    have : 2 ^ (trimF b).length ≤ 2 ^ (r.length - 1) := Nat.pow_le_pow_right (by decide) (by omega)
    omega
theorem div_from (a b : List Bool) (ha : a.length ≤ 30000) (hb : b.length ≤ 1000) (h0 : 0 < val b) : ∀ (j : Nat) (quo rem : List Bool), j ≤ a.length → quo.length ≤ a.length - j → val rem < val b → rem = trimF rem →
    val (a.drop j) = val quo * val b + val rem →
    ∃ q r, EvT (fun k => soukref01_Div.l0 k a b quo rem ((j : Int) - 1)) (trimF q, r) ∧ val q = val a / val b ∧ val r = val a % val b ∧ r = trimF r
  | 0, quo, rem, _, hq, hlt, hc, hv => by
    refine ⟨quo, rem, EvT.step (g := fun k => (soukref01_trim.f k quo).bind fun t => some (t, rem)) (fun k => ?_) ?_, ?_, ?_, hc⟩
    · simp only [soukref01_Div.l0]
      rw [if_neg (by omega)]
    · exact EvT.bind (F := fun _ t => some (t, rem)) (trim_ok quo (by omega)) (EvT.const _)
    · rw [List.drop_zero] at hv
      rw [hv, Nat.add_comm, Nat.add_mul_div_right _ _ h0, Nat.div_eq_of_lt hlt, Nat.zero_add]
    · rw [List.drop_zero] at hv
      rw [hv, Nat.add_comm, Nat.add_mul_mod_self_right, Nat.mod_eq_of_lt hlt]
  | j + 1, quo, rem, hj, hq, hlt, hc, hv => by
    have hr : rem.length ≤ 1000 := Nat.le_trans (canon_len rem b hc hlt) (Nat.le_trans (trimF_len b) hb)
    have e : ((j + 1 : Nat) : Int) - 1 = (j : Int) := by omega
    have hla : j < a.length := by omega
    have hd := drop_bat a j hla
    rw [e]
    -- the rest with one bit more
    have ht := trim_ok (bat a j :: rem) (by simp; omega)
    have htv : val (trimF (bat a j :: rem)) = bv (bat a j) + 2 * val rem := by rw [trimF_val]; rfl
    have htl := trimF_len (bat a j :: rem)
    have hL := less_ok (trimF (bat a j :: rem)) b (by simp at htl; omega) (by omega)
    rw [htv] at hL
    have hvd : val (a.drop j) = bv (bat a j) + 2 * (val quo * val b + val rem) := by rw [hd]; simp only [val, hv]
    have hgo : ∀ k, soukref01_Div.l0 (k + 1) a b quo rem (j : Int) = (soukref01_trim.f k (bat a j :: rem)).bind fun t205 => (soukref01_less.f k t205 b).bind fun t208 => if t208 = true then soukref01_Div.l0 k a b ((!t208) :: quo) t205 ((j : Int) - 1) else (soukref01_minus.f k t205 b).bind fun t215 => soukref01_Div.l0 k a b ((!t208) :: quo) t215 ((j : Int) - 1) := fun k => by
      simp only [soukref01_Div.l0]
      rw [if_pos (by omega), if_pos (by omega), if_pos (by omega), rdOf_at]
      simp only [Option.bind_some, List.length_cons, List.length_nil, List.cons_append, List.nil_append]
      have hq1 : 0 + 1 + quo.length < 140737488355328 := by omega
      rw [if_pos (by omega), pv1 j (by omega)]
      simp only [if_pos hq1]
    by_cases hl : bv (bat a j) + 2 * val rem < val b
    · rw [decide_eq_true hl] at hL
      obtain ⟨q, r, h1, h2⟩ := div_from a b ha hb h0 j (false :: quo) (trimF (bat a j :: rem)) (by omega) (by simp; omega) (by rw [htv]; exact hl) (trimF_idem _).symm (by
        rw [hvd, htv]
        show _ = (0 + 2 * val quo) * val b + _
        rw [Nat.zero_add, Nat.mul_assoc]; omega)
      refine ⟨q, r, EvT.step hgo (EvT.bind (F := fun k t205 => (soukref01_less.f k t205 b).bind fun t208 => if t208 = true then soukref01_Div.l0 k a b ((!t208) :: quo) t205 ((j : Int) - 1) else (soukref01_minus.f k t205 b).bind fun t215 => soukref01_Div.l0 k a b ((!t208) :: quo) t215 ((j : Int) - 1)) ht (EvT.bind (F := fun k t208 => if t208 = true then soukref01_Div.l0 k a b ((!t208) :: quo) (trimF (bat a j :: rem)) ((j : Int) - 1) else (soukref01_minus.f k (trimF (bat a j :: rem)) b).bind fun t215 => soukref01_Div.l0 k a b ((!t208) :: quo) t215 ((j : Int) - 1)) hL (EvT.congr (fun k => if_pos rfl) h1))), h2⟩
    · rw [decide_eq_false hl] at hL
      obtain ⟨m, hm1, hm2, hm3⟩ := minus_ok (trimF (bat a j :: rem)) b (by simp at htl; omega) (by rw [htv]; omega)
      rw [htv] at hm2
      have hbv := bv_le (bat a j)
      obtain ⟨q, r, h1, h2⟩ := div_from a b ha hb h0 j (true :: quo) (trimF m) (by omega) (by simp; omega) (by rw [trimF_val, hm2]; omega) (trimF_idem _).symm (by
        rw [hvd, trimF_val, hm2]
        show _ = (1 + 2 * val quo) * val b + _
        rw [Nat.add_mul, Nat.one_mul, Nat.mul_assoc]; omega)
      refine ⟨q, r, EvT.step hgo (EvT.bind (F := fun k t205 => (soukref01_less.f k t205 b).bind fun t208 => if t208 = true then soukref01_Div.l0 k a b ((!t208) :: quo) t205 ((j : Int) - 1) else (soukref01_minus.f k t205 b).bind fun t215 => soukref01_Div.l0 k a b ((!t208) :: quo) t215 ((j : Int) - 1)) ht (EvT.bind (F := fun k t208 => if t208 = true then soukref01_Div.l0 k a b ((!t208) :: quo) (trimF (bat a j :: rem)) ((j : Int) - 1) else (soukref01_minus.f k (trimF (bat a j :: rem)) b).bind fun t215 => soukref01_Div.l0 k a b ((!t208) :: quo) t215 ((j : Int) - 1)) hL (EvT.congr (fun k => if_neg (by decide)) (EvT.bind (F := fun k t215 => soukref01_Div.l0 k a b ((!false) :: quo) t215 ((j : Int) - 1)) hm1 h1)))), h2⟩
theorem div_ok (a b : List Bool) (ha : a.length ≤ 30000) (hb : b.length ≤ 1000) (h0 : 0 < val b) : ∃ q r, EvT (fun k => soukref01_Div.f k a b) (trimF q, r) ∧ val q = val a / val b ∧ val r = val a % val b ∧ r = trimF r := by
  obtain ⟨q, r, h1, h2⟩ := div_from a b ha hb h0 a.length [] [] (Nat.le_refl _) (by simp) (by simpa [val] using h0) rfl (by simp [val])
  refine ⟨q, r, EvT.congr (fun k => ?_) h1, h2⟩
  unfold soukref01_Div.f
  rw [pv1 _ (by omega)]
def valF (v : Nat) (neg : Bool) : Int × Bool :=
  if neg = true then (if v ≤ 9223372036854775808 then (-(v : Int), true) else (0, false)) else if v < 9223372036854775808 then ((v : Int), true) else (0, false)
theorem value_from (a : List Bool) (neg : Bool) (ha : a.length ≤ 64) : ∀ (j : Nat), j ≤ a.length → EvT (fun k => soukref01_value.l0 k a neg (val (a.drop j) : Nat) ((j : Int) - 1)) (valF (val a) neg)
  | 0, _ => by
    rw [List.drop_zero]
    have hv : val a < 18446744073709551616 := Nat.lt_of_lt_of_le (val_lt a) (Nat.pow_le_pow_right (by decide) ha)
    generalize val a = v at *
    cases neg with
    | true =>
      refine EvT.step (g := fun k => soukref01_value.j1 k true (v : Int) (decide ((v : Int) ≤ 9223372036854775808))) (fun k => ?_) (EvT.done (fun k => ?_))
      · simp only [soukref01_value.l0]
        rw [if_neg (by omega), if_pos trivial]
      · simp only [soukref01_value.j1]
        unfold valF
        rw [if_pos rfl]
        by_cases h : v ≤ 9223372036854775808
        · rw [if_pos (by simp; omega), if_pos h]
          have : wrap64 (IntKind.u64.wrap (-(v : Int))) = -(v : Int) := by rw [IntKind.wrap_u64]; unfold wrap64; omega
          rw [this]
        · rw [if_neg (by simp; omega), if_neg h, if_neg (by omega)]
    | false =>
      refine EvT.step (g := fun k => soukref01_value.j1 k false (v : Int) false) (fun k => ?_) (EvT.done (fun k => ?_))
      · simp only [soukref01_value.l0]
        rw [if_neg (by omega), if_neg (by decide)]
      · simp only [soukref01_value.j1]
        unfold valF
        by_cases h : v < 9223372036854775808
        · have hw : wrap64 (v : Int) = v := by unfold wrap64; omega
          have h' : (v : Int) < 9223372036854775808 := by omega
          rw [hw]; simp [h, h']
        · have h' : ¬ (v : Int) < 9223372036854775808 := by omega
          simp [h, h']
  | j + 1, hj => by
    have e : ((j + 1 : Nat) : Int) - 1 = (j : Int) := by omega
    have hla : j < a.length := by omega
    have ih := value_from a neg ha j (by omega)
    have hd := drop_bat a j hla
    have hv : val (a.drop j) < 18446744073709551616 := by
      have h1 := val_lt (a.drop j)
      have h2 : 2 ^ (a.drop j).length ≤ 2 ^ 64 := Nat.pow_le_pow_right (by decide) (by rw [List.length_drop]; omega)
      have h3 : (2 : Nat) ^ 64 = 18446744073709551616 := by decide
      omega
    rw [hd] at ih hv
    simp only [val] at ih hv
    rw [e]
    generalize val (a.drop (j + 1)) = u at *
    refine EvT.step (fun k => ?_) ih
    simp only [soukref01_value.l0]
    rw [if_pos (by omega), if_pos (by omega), if_pos (by omega), rdOf_at, pv1 j (by omega)]
    cases hb : bat a j with
    | true =>
      rw [hb] at hv
      have : IntKind.u64.wrap (IntKind.u64.wrap ((u : Int) * 2) + 1) = ((bv true + 2 * u : Nat) : Int) := by
        rw [IntKind.wrap_u64, IntKind.wrap_u64]; simp [bv] at hv ⊢; omega
      rw [if_pos rfl, this]
    | false =>
      rw [hb] at hv
      have : IntKind.u64.wrap ((u : Int) * 2) = ((bv false + 2 * u : Nat) : Int) := by
        rw [IntKind.wrap_u64]; simp [bv] at hv ⊢; omega
      rw [if_neg (by decide), this]
theorem value_ok (a : List Bool) (neg : Bool) (ha : a.length ≤ 100000) : EvT (fun k => soukref01_value.f k a neg) (valF (val a) neg) := by
  have ht := trim_ok a (by omega)
  refine EvT.bind (F := fun k t260 => if (t260.length : Int) > 64 then (some (0, false)) else (soukref01_value.l0 k t260 neg 0 (wrap64 ((t260.length : Int) - 1)))) ht ?_
  by_cases h : (trimF a).length > 64
  · have h1 : val a ≥ 18446744073709551616 := by
      have hne : trimF a ≠ [] := fun h2 => by rw [h2] at h; simp at h
      have := trimF_pow a hne
      have h2 : 2 ^ 64 ≤ 2 ^ ((trimF a).length - 1) := Nat.pow_le_pow_right (by decide) (by omega)
      have h3 : (2 : Nat) ^ 64 = 18446744073709551616 := by decide
      omega
    have e : valF (val a) neg = (0, false) := by
      unfold valF
      cases neg
      · rw [if_neg (by decide), if_neg (by omega)]
      · rw [if_pos rfl, if_neg (by omega)]
    rw [e]
    exact EvT.congr (fun k => if_pos (by omega)) (EvT.const _)
  · have := value_from (trimF a) neg (by omega) (trimF a).length (Nat.le_refl _)
    rw [List.drop_length, trimF_val] at this
    refine EvT.congr (fun k => ?_) this
    rw [if_neg (by omega), pv1 _ (by omega)]
    rfl
end Go.Proofs.Ytncnhhnbjmpomaa.Q
