/- ScopeRenaming: the runs of the law behind its two texts (printed by wip/ev/ren.py) -/
import Derived.Test.YtlblaopkmigheaaGreatDoorRn0
import Derived.Test.YtlblaopkmigheaaGreatDoorRa
import Derived.Test.YtlblaopkmigheaaGreatDoorRz0
import Derived.Test.YtlblaopkmigheaaGreatDoorRz1
import Derived.Test.YtlblaopkmigheaaGreatDoorRz2
import Derived.Test.YtlblaopkmigheaaGreatDoorRz3
import Derived.Test.YtlblaopkmigheaaGreatDoorRz4
import Derived.Test.YtlblaopkmigheaaGreatDoorRz5
import Derived.Test.YtlblaopkmigheaaGreatDoorRz6
import Derived.Test.YtlblaopkmigheaaGreatDoorRz7
import Derived.Test.YtlblaopkmigheaaGreatDoorRz8
import Derived.Test.YtlblaopkmigheaaGreatDoorRz9
import Derived.Test.YtlblaopkmigheaaGreatDoorRz10
import Derived.Test.YtlblaopkmigheaaGreatDoorRz11
import Derived.Test.YtlblaopkmigheaaGreatDoorRz12
import Derived.Test.YtlblaopkmigheaaGreatDoorRz13
import Derived.Test.YtlblaopkmigheaaGreatDoorRz14
namespace Go.Proofs.YtlblaopkmigheaaGreatDoor
open Go Go.RowKit Ev

theorem runR00 : renRun (fun c => callT p0_6 (callT p0_7 (callT p3_6 (callT p3_7 (callT smA c))))) 41 21879215766831445409604292584553502293006243346596962520247481231245735756368702943092528024922214 41 21879215766831445409604292584553502293006243346596962520247481231245735756368702943092528024922214 = .ok := by kernel_rfl
theorem runR01 : renRun (fun c => callT p1_6 (callT p1_7 (callT p4_6 (callT p4_7 (callT smA c))))) 41 21879215766831445409604292584553502293006243346596962520247483889701727326200448750706648585611366 41 21879215766831445409604292584553502293006243346596962520247483889701727326200448750706648585611366 = .ok := by kernel_rfl
theorem runR02 : renRun (fun c => callT p2_6 (callT p2_7 (callT p5_6 (callT p5_7 (callT smA c))))) 41 21879215766831445409604292584553502293006243346596962520247479902017739971452830039285467744577638 41 21879215766831445409604292584553502293006243346596962520247479902017739971452830039285467744577638 = .ok := by kernel_rfl
theorem runR10 : renRun (fun c => callT p0_6 (callT p0_7 (callT p6_6 (callT p6_7 (callT smA c))))) 41 21879215766831445409604292584553502293006243346596962520247481231245735756368702943092528024922214 41 21879215639516696888698912192775646767420108280506043496969754419406531944940851584428117906106470 = .ok := by kernel_rfl
theorem runR11 : renRun (fun c => callT p1_6 (callT p1_7 (callT p7_6 (callT p7_7 (callT smA c))))) 41 21879215766831445409604292584553502293006243346596962520247483889701727326200448750706648585611366 41 21879215639516696888698912192775646767420108280506043496969757077862523514772597392042238466795622 = .ok := by kernel_rfl
theorem runR12 : renRun (fun c => callT p2_6 (callT p2_7 (callT p8_6 (callT p8_7 (callT smA c))))) 41 21879215766831445409604292584553502293006243346596962520247479902017739971452830039285467744577638 41 21879215639516696888698912192775646767420108280506043496969753090178536160024978680621057625761894 = .ok := by kernel_rfl
theorem runR20 : renRun (fun c => callT p0_6 (callT p0_7 (callT p9_6 (callT p9_7 (callT smA c))))) 41 21879215766831445409604292584553502293006243346596962520247481231245735756368702943092528024922214 45 93970472002281953609080831762081717773276354070955072889876292248248663692823837429009293609434765264496742 = .ok := by kernel_rfl
theorem runR21 : renRun (fun c => callT p1_6 (callT p1_7 (callT p10_6 (callT p10_7 (callT smA c))))) 41 21879215766831445409604292584553502293006243346596962520247483889701727326200448750706648585611366 45 93970472002281953609080831762081717773276354070955072889876292248422888264687357922302541408439830588762214 = .ok := by kernel_rfl
theorem runR22 : renRun (fun c => callT p2_6 (callT p2_7 (callT p11_6 (callT p11_7 (callT smA c))))) 41 21879215766831445409604292584553502293006243346596962520247479902017739971452830039285467744577638 45 93970472002281953609080831762081717773276354070955072889876292248161551406892077182362669709932232602364006 = .ok := by kernel_rfl
theorem runR30 : renRun (fun c => callT p0_6 (callT p0_7 (callT p12_6 (callT p12_7 (callT smA c))))) 41 21879215766831445409604292584553502293006243346596962520247481231245735756368702943092528024922214 45 93970477436232972991876081375016938268616933620297756463696344133613145359147154112570357006662337476765798 = .ok := by kernel_rfl
theorem runR31 : renRun (fun c => callT p1_6 (callT p1_7 (callT p13_6 (callT p13_7 (callT smA c))))) 41 21879215766831445409604292584553502293006243346596962520247483889701727326200448750706648585611366 45 93970477436232972991876081375016938268616933620297756463696344133787369931010674605863604805667402801031270 = .ok := by kernel_rfl
theorem runR32 : renRun (fun c => callT p2_6 (callT p2_7 (callT p14_6 (callT p14_7 (callT smA c))))) 41 21879215766831445409604292584553502293006243346596962520247479902017739971452830039285467744577638 45 93970477436232972991876081375016938268616933620297756463696344133526033073215393865923733107159804814633062 = .ok := by kernel_rfl
theorem renAll : ∀ v o, v < 4 → o < 3 → ∃ Tb, TbOK Tryz.prog G8 Tb ∧ renRun Tb (renK v o).1 (renK v o).2.1 (renK v o).2.2.1 (renK v o).2.2.2 = .ok := by
  intro v o hv ho
  have h1 : v = 0 ∨ v = 1 ∨ v = 2 ∨ v = 3 := by omega
  have h2 : o = 0 ∨ o = 1 ∨ o = 2 := by omega
  rcases h1 with rfl | rfl | rfl | rfl
  · rcases h2 with rfl | rfl | rfl
    · exact ⟨_, tbp0 (tbp3 tbA), runR00⟩
    · exact ⟨_, tbp1 (tbp4 tbA), runR01⟩
    · exact ⟨_, tbp2 (tbp5 tbA), runR02⟩
  · rcases h2 with rfl | rfl | rfl
    · exact ⟨_, tbp0 (tbp6 tbA), runR10⟩
    · exact ⟨_, tbp1 (tbp7 tbA), runR11⟩
    · exact ⟨_, tbp2 (tbp8 tbA), runR12⟩
  · rcases h2 with rfl | rfl | rfl
    · exact ⟨_, tbp0 (tbp9 tbA), runR20⟩
    · exact ⟨_, tbp1 (tbp10 tbA), runR21⟩
    · exact ⟨_, tbp2 (tbp11 tbA), runR22⟩
  · rcases h2 with rfl | rfl | rfl
    · exact ⟨_, tbp0 (tbp12 tbA), runR30⟩
    · exact ⟨_, tbp1 (tbp13 tbA), runR31⟩
    · exact ⟨_, tbp2 (tbp14 tbA), runR32⟩
theorem scopeRenaming_law (w : World) (hG : ∀ i ∈ gis, i.holds w) (n : Nat) (_hs : n < 256) (a1 : Option Addr) (n1 c1 : Nat) (l1 : List Int) (hR1 : Rd w w.heap.size 1 a1 n1 (cellsOf icell l1)) (hn1 : n1 ≤ 1048576) :
    Calls Tryz.prog 3 #[.int .u8 n, .slice a1 n1 c1] w fun e w' => e = .returned (.bool true) ∧ Below w.heap.size w w' := front renAll w hG n a1 n1 c1 l1 hR1 hn1
end Go.Proofs.YtlblaopkmigheaaGreatDoor
