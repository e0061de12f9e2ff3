/- Dropped. -/
import Derived.Test.YtbblgobamoabkaaGreatDoorZj
